/- Part 13 of the proof: BigG, Rs, Up, Ep, Ex, LMa, Rf, LRx. -/
import Derived.Test.YtjpiplplohapnaaGreatDoorPs12
import Derived.Laws.FloatArith
set_option linter.unusedVariables false
set_option linter.unusedSimpArgs false
namespace Go.Proofs.YtjpiplplohapnaaGreatDoor.Big
open Go.RowKit Go.Proofs.YtjpiplplohapnaaGreatDoorW.PrintWords Go.Proofs.YtjpiplplohapnaaGreatDoorW.PrintLast Go.Proofs.YtjpiplplohapnaaGreatDoorW.PrintMore
open Go.Proofs.YtjpiplplohapnaaGreatDoor.PText Go.Proofs.YtjpiplplohapnaaGreatDoor.Nr
theorem shl52 (l : Nat) (h : l < 4096) : shl .u64 (l : Int) 52 = ((l * 4503599627370496 : Nat) : Int) := by
  unfold shl
  rw [show min (52 : Int).toNat IntKind.u64.bits = 52 from rfl, show (2 : Int) ^ 52 = ((2 ^ 52 : Nat) : Int) from (Int.natCast_pow 2 52).symm, p52, ← Int.natCast_mul]
  exact wun _ (by omega)
theorem z8t (D : Nat) : bl D ≤ 32 * ln D := bl_le (by rw [← B_eq]; exact z1r D)
theorem two_digs_i (m : Nat) (h : m < 18446744073709551616) : IntKind.u64.wrap (((dig m 0 : Nat) : Int) + IntKind.u64.wrap (((dig m 1 : Nat) : Int) * 4294967296)) = (m : Int) := by
  have h1 := two_digs m h
  have d0 := z4d m 0
  have d1 := z4d m 1
  have hB : B = 4294967296 := rfl
  rw [wu (x := ((dig m 1 : Nat) : Int) * 4294967296) (by omega) (by omega), wu (by omega) (by omega)]
  omega
theorem dig0_two (m : Nat) : Int.tmod ((dig m 0 : Nat) : Int) 2 = ((m % 2 : Nat) : Int) := by
  rw [Int.tmod_eq_emod_of_nonneg (by omega)]
  unfold dig
  rw [Nat.pow_zero, Nat.div_one]
  show ((m % 4294967296 : Nat) : Int) % 2 = _
  omega
theorem rounded_up (D g l : Nat) (E : Int) (hl : l < 4000) (hg : g ≤ 1000000) (hm : D * 2 ^ g < 9007199254740992) (ht : ln D ≤ 10000) :
    Ev (fun k => (z0l.f k (dg D) (g : Int)).bind fun t226 => (if (0 : Int) ≤ 52 then ((z0g.f t226 0).bind fun t229 => ((z0g.f t226 1).bind fun t230 => (some (IntKind.u64.wrap ((IntKind.u64.wrap ((shl .u64 (l : Int) 52) + t229)) + (IntKind.u64.wrap (t230 * 4294967296))))))) else (none))) ((l * 4503599627370496 + D * 2 ^ g : Nat) : Int) := by
  refine Ev.bind (up_ev D g (by omega) (by omega)) ?_
  refine Ev.congr (f := fun _ => some ((l * 4503599627370496 + D * 2 ^ g : Nat) : Int)) (fun k => ?_) (Ev.now _)
  rw [if_pos (by omega), show (0 : Int) = ((0 : Nat) : Int) from rfl, z4w, Option.bind_some, show (1 : Int) = ((1 : Nat) : Int) from rfl, z4w, Option.bind_some]
  generalize D * 2 ^ g = m at *
  have h1 := two_digs m (by omega)
  have d0 := z4d m 0
  have d1 := z4d m 1
  have hB : B = 4294967296 := rfl
  rw [shl52 l (by omega), wu (x := ((dig m 1 : Nat) : Int) * 4294967296) (by omega) (by omega), wu (x := ((l * 4503599627370496 : Nat) : Int) + ((dig m 0 : Nat) : Int)) (by omega) (by omega), wu (by omega) (by omega)]
  exact congrArg some (by omega)
theorem rounded_down (D n l : Nat) (more : Bool) (hl : l < 4000) (hn1 : 1 ≤ n) (hn : n ≤ 2000000) (hm : D / 2 ^ n < 9007199254740992) (ht : ln D ≤ 10000) :
    Ev (fun k => (z0a.f k (dg D) (n : Int)).bind fun bt231 => ((z0a.f k (dg D) ((n - 1 : Nat) : Int)).bind fun bt235 => ((z0g.f bt231.1 0).bind fun t239 => ((z0g.f bt231.1 1).bind fun t240 => ((z0g.f bt235.1 0).bind fun t241 => (if (Int.tmod t241 2) = 1 then (if bt235.2 = true then (if (0 : Int) ≤ 52 then (some (IntKind.u64.wrap ((shl .u64 (l : Int) 52) + (IntKind.u64.wrap ((IntKind.u64.wrap (t239 + (IntKind.u64.wrap (t240 * 4294967296)))) + 1))))) else (none)) else (if more = true then (if (0 : Int) ≤ 52 then (some (IntKind.u64.wrap ((shl .u64 (l : Int) 52) + (IntKind.u64.wrap ((IntKind.u64.wrap (t239 + (IntKind.u64.wrap (t240 * 4294967296)))) + 1))))) else (none)) else (if (Int.tmod (IntKind.u64.wrap (t239 + (IntKind.u64.wrap (t240 * 4294967296)))) 2) = 1 then (if (0 : Int) ≤ 52 then (some (IntKind.u64.wrap ((shl .u64 (l : Int) 52) + (IntKind.u64.wrap ((IntKind.u64.wrap (t239 + (IntKind.u64.wrap (t240 * 4294967296)))) + 1))))) else (none)) else (if (0 : Int) ≤ 52 then (some (IntKind.u64.wrap ((shl .u64 (l : Int) 52) + (IntKind.u64.wrap (t239 + (IntKind.u64.wrap (t240 * 4294967296))))))) else (none))))) else (if (0 : Int) ≤ 52 then (some (IntKind.u64.wrap ((shl .u64 (l : Int) 52) + (IntKind.u64.wrap (t239 + (IntKind.u64.wrap (t240 * 4294967296))))))) else (none)))))))) ((l * 4503599627370496 + (D / 2 ^ n + upB D n more) : Nat) : Int) := by
  refine Ev.bind (down_ev D n (by omega) (by omega)) ?_
  refine Ev.bind (down_ev D (n - 1) (by omega) (by omega)) ?_
  refine Ev.congr (f := fun _ => some ((l * 4503599627370496 + (D / 2 ^ n + upB D n more) : Nat) : Int)) (fun k => ?_) (Ev.now _)
  try dsimp only
  rw [show (z0g.f (dg (D / 2 ^ n)) 0) = some ((dig (D / 2 ^ n) 0 : Nat) : Int) from z4w _ 0, Option.bind_some, show (z0g.f (dg (D / 2 ^ n)) 1) = some ((dig (D / 2 ^ n) 1 : Nat) : Int) from z4w _ 1, Option.bind_some, show (z0g.f (dg (D / 2 ^ (n - 1))) 0) = some ((dig (D / 2 ^ (n - 1)) 0 : Nat) : Int) from z4w _ 0, Option.bind_some]
  rw [two_digs_i _ (by omega), dig0_two, shl52 l (by omega)]
  have e0 : (0 : Int) ≤ 52 := by omega
  rw [if_pos e0, if_pos e0]
  have et : Int.tmod ((D / 2 ^ n : Nat) : Int) 2 = ((D / 2 ^ n % 2 : Nat) : Int) := tmod2 rfl
  rw [et]
  unfold upB
  obtain ⟨q, hq⟩ : ∃ q, q = D / 2 ^ n := ⟨_, rfl⟩
  rw [← hq] at hm ⊢
  have wA : IntKind.u64.wrap (((l * 4503599627370496 : Nat) : Int) + ((q : Nat) : Int)) = ((l * 4503599627370496 + (q + 0) : Nat) : Int) := by rw [wu (by omega) (by omega)]; omega
  have wB : IntKind.u64.wrap (((l * 4503599627370496 : Nat) : Int) + IntKind.u64.wrap (((q : Nat) : Int) + 1)) = ((l * 4503599627370496 + (q + 1) : Nat) : Int) := by rw [wu (x := ((q : Nat) : Int) + 1) (by omega) (by omega), wu (by omega) (by omega)]; omega
  rw [wA, wB]
  by_cases c1 : D / 2 ^ (n - 1) % 2 = 1
  · rw [if_pos (by omega)]
    by_cases c2 : D % 2 ^ (n - 1) ≠ 0
    · rw [if_pos (by simpa using c2), if_pos ⟨c1, Or.inl c2⟩]
    rw [if_neg (by simpa using c2)]
    cases more
    · rw [if_neg (by simp)]
      by_cases c4 : q % 2 = 1
      · rw [if_pos (by omega), if_pos ⟨c1, Or.inr (Or.inr c4)⟩]
      rw [if_neg (by omega), if_neg]
      rintro ⟨_, h | h | h⟩
      · exact c2 h
      · exact absurd h (by simp)
      exact c4 h
    rw [if_pos rfl, if_pos ⟨c1, Or.inr (Or.inl rfl)⟩]
  rw [if_neg (by omega), if_neg (fun h => c1 h.1)]
theorem rounded_ev (D : Nat) (hD : D ≠ 0) (E : Int) (more : Bool) (hE1 : -1100000 ≤ E) (hE2 : E ≤ 1100000) (ht : ln D ≤ 10000) (hfar : (bl D : Int) + E ≤ 1100) :
    Ev (fun k => z1l.f k (dg D) E more 53 (-1074)) ((rr D E more : Nat) : Int) := by
  have hbl := z8t D
  have b1 := z4b D
  have hlsb : mx (wrap64 (wrap64 (((bl D : Nat) : Int) - 53) + E)) (-1074) = lsbI D E := by
    rw [w64 (x := ((bl D : Nat) : Int) - 53) (by omega) (by omega), w64 (by omega) (by omega)]
    unfold mx lsbI
    split <;> omega
  obtain ⟨l, hl⟩ : ∃ l : Nat, (l : Int) = lsbI D E + 1074 := ⟨(lsbI D E + 1074).toNat, by unfold lsbI; omega⟩
  have hl' : (lsbI D E + 1074).toNat = l := by omega
  have hl4 : l < 4000 := by unfold lsbI at hl; omega
  have hlw : IntKind.u64.wrap (wrap64 (lsbI D E - (-1074))) = (l : Int) := by
    rw [show lsbI D E - (-1074) = (l : Int) by omega, w64 (by omega) (by omega), wun _ (by omega)]
  have h52 : wrap64 (53 - 1) = 52 := by rw [w64 (by omega) (by omega)]; omega
  have hlr : -1100000 - 2000 ≤ lsbI D E ∧ lsbI D E ≤ 1100 := by unfold lsbI; omega
  unfold z1l.f
  refine Ev.bind (len_ev D (by unfold top; omega)) ?_
  try dsimp only
  rw [hlsb, hlw, h52]
  unfold rr
  rw [hl']
  by_cases hle : lsbI D E ≤ E
  · rw [if_pos hle]
    obtain ⟨g, hg⟩ : ∃ g : Nat, (g : Int) = E - lsbI D E := ⟨(E - lsbI D E).toNat, by omega⟩
    have hg' : (E - lsbI D E).toNat = g := by omega
    have hgb : bl D + g ≤ 53 := by unfold lsbI at hg hle; omega
    have hm : D * 2 ^ g < 9007199254740992 := by
      have a1 : D * 2 ^ g < 2 ^ bl D * 2 ^ g := Nat.mul_lt_mul_of_pos_right b1 (Nat.pow_pos (by decide))
      have a2 : 2 ^ bl D * 2 ^ g ≤ 2 ^ 53 := by rw [← Nat.pow_add]; exact Nat.pow_le_pow_right (by decide) hgb
      rw [p53] at a2
      omega
    rw [hg', w64 (x := E - lsbI D E) (by omega) (by omega), ← hg]
    refine Ev.congr (fun k => ?_) (rounded_up D g l E hl4 (by omega) hm ht)
    rw [if_pos (by omega)]
  rw [if_neg hle]
  obtain ⟨n, hg⟩ : ∃ n : Nat, (n : Int) = lsbI D E - E := ⟨(lsbI D E - E).toNat, by omega⟩
  have hg' : (lsbI D E - E).toNat = n := by omega
  have hq : D / 2 ^ n < 9007199254740992 := by
    refine Nat.div_lt_of_lt_mul ?_
    have a1 : 2 ^ bl D ≤ 2 ^ n * 2 ^ 53 := by
      rw [← Nat.pow_add]
      exact Nat.pow_le_pow_right (by decide) (by unfold lsbI at hg hle; omega)
    rw [p53] at a1
    omega
  rw [hg', w64 (x := lsbI D E - E) (by omega) (by omega), ← hg, w64 (x := (n : Int) - 1) (by omega) (by omega), show (n : Int) - 1 = ((n - 1 : Nat) : Int) by omega]
  refine Ev.congr (fun k => ?_) (rounded_down D n l more hl4 (by omega) (by omega) hq ht)
  rw [if_neg (by omega)]
def nbS (D : Nat) (E : Int) (more : Bool) : Nat := if (bl D : Int) + E > 1100 then 9218868437227405312 else if (bl D : Int) + E < -1200 then 0 else min (rr D E more) 9218868437227405312
def nb (ng : Bool) (D : Nat) (E : Int) (more : Bool) : Nat := if D = 0 then 0 else (if ng then 9223372036854775808 else 0) + nbS D E more
theorem made_of (ng : Bool) (a : Int) (x : Nat) (hx : x ≤ 9218868437227405312) (h : mn a 9218868437227405312 = (x : Int)) : z1i.f ng a = some (((if ng then 9223372036854775808 else 0) + x : Nat) : Int) := by
  unfold z1i.f
  rw [h]
  cases ng
  · rw [if_neg (by simp)]; simp
  rw [if_pos rfl, wu (by omega) (by omega)]
  congr 1
  simp
  omega
theorem mn_nat (a : Nat) : mn (a : Int) 9218868437227405312 = ((min a 9218868437227405312 : Nat) : Int) := by
  unfold mn
  split <;> omega
theorem nearMore_ev (ng : Bool) (D : Nat) (E : Int) (more : Bool) (hE1 : -1100000 ≤ E) (hE2 : E ≤ 1100000) (ht : ln D ≤ 10000) :
    Ev (fun k => z0f.f k ng (dg D) E more) ((nb ng D E more : Nat) : Int) := by
  unfold z0f.f z1m.f nb
  by_cases hD : D = 0
  · subst hD
    refine Ev.congr (f := fun _ => some 0) (fun k => ?_) (Ev.now _)
    rw [z1c, z3z]
    rfl
  rw [if_neg hD]
  have hln := z5m hD
  have hz : ((((dg D).length : Nat) : Int) == 0) = false := by
    rw [z1c]; simp; omega
  have hbl := z8t D
  have hlen := len_ev D (by unfold top; omega)
  have hw : wrap64 (((bl D : Nat) : Int) + E) = ((bl D : Nat) : Int) + E := w64 (by omega) (by omega)
  refine Ev.congr (f := fun k => (z2h.f k ng (dg D) E).bind fun t244 => (if t244 = true then (if E > 0 then (z0f.j0 k true ng (dg D) E) else ((z0j.f k (dg D)).bind fun t245 => (z0f.j0 k (decide ((wrap64 (t245 + E)) > 0)) ng (dg D) E))) else ((z1l.f k (dg D) E more 53 (-1074)).bind fun t248 => ((z1i.f ng t248).bind fun t249 => (some t249))))) (fun k => ?_) ?_
  · rw [hz, Option.bind_some, if_neg (by simp)]
  have hj : ∀ bb : Bool, Ev (fun k => z0f.j0 k bb ng (dg D) E) (((if ng then 9223372036854775808 else 0) + (if bb then 9218868437227405312 else 0) : Nat) : Int) := by
    intro bb
    refine Ev.step (f := fun _ => some (((if ng then 9223372036854775808 else 0) + (if bb then 9218868437227405312 else 0) : Nat) : Int)) (fun k => ?_) (Ev.now _)
    cases bb
    · rw [z0f.j0, if_neg (by simp), made_of ng 0 0 (by omega) (by decide), Option.bind_some]; rfl
    rw [z0f.j0, if_pos rfl, made_of ng 9218868437227405312 9218868437227405312 (by omega) (by decide), Option.bind_some]; rfl
  have hf : Ev (fun k => z2h.f k ng (dg D) E) (decide (((bl D : Nat) : Int) + E > 1100 ∨ ((bl D : Nat) : Int) + E < -1200)) := by
    unfold z2h.f
    refine Ev.bind hlen ?_
    try dsimp only
    rw [hw]
    by_cases c1 : ((bl D : Nat) : Int) + E > 1100
    · rw [decide_eq_true (Or.inl c1)]
      refine Ev.congr (fun k => ?_) (Ev.now _)
      rw [if_pos c1]
    refine Ev.congr (f := fun k => (z0j.f k (dg D)).bind fun t203 => (some (decide ((wrap64 (t203 + E)) < (-1200))))) (fun k => by rw [if_neg c1]) ?_
    refine Ev.bind hlen ?_
    try dsimp only
    rw [hw, show decide (((bl D : Nat) : Int) + E > 1100 ∨ ((bl D : Nat) : Int) + E < -1200) = decide (((bl D : Nat) : Int) + E < -1200) from decide_eq_decide.2 ⟨fun h => h.resolve_left c1, Or.inr⟩]
    exact Ev.now _
  refine Ev.bind hf ?_
  unfold nbS
  by_cases c1 : ((bl D : Nat) : Int) + E > 1100
  · rw [if_pos c1]
    by_cases c2 : E > 0
    · refine Ev.congr (fun k => ?_) (hj true)
      rw [if_pos (by simpa using Or.inl c1), if_pos c2]
    refine Ev.congr (f := fun k => (z0j.f k (dg D)).bind fun t245 => (z0f.j0 k (decide ((wrap64 (t245 + E)) > 0)) ng (dg D) E)) (fun k => ?_) (Ev.bind hlen ?_)
    · rw [if_pos (by simpa using Or.inl c1), if_neg c2]
    try dsimp only
    rw [hw, decide_eq_true (by omega)]
    exact hj true
  rw [if_neg c1]
  by_cases c3 : ((bl D : Nat) : Int) + E < -1200
  · rw [if_pos c3]
    refine Ev.congr (f := fun k => (z0j.f k (dg D)).bind fun t245 => (z0f.j0 k (decide ((wrap64 (t245 + E)) > 0)) ng (dg D) E)) (fun k => ?_) (Ev.bind hlen ?_)
    · rw [if_pos (by simpa using Or.inr c3), if_neg (by omega)]
    try dsimp only
    rw [hw, decide_eq_false (by omega)]
    exact hj false
  rw [if_neg c3]
  refine Ev.congr (f := fun k => (z1l.f k (dg D) E more 53 (-1074)).bind fun t248 => ((z1i.f ng t248).bind fun t249 => (some t249))) (fun k => ?_) (Ev.bind (rounded_ev D hD E more hE1 hE2 ht (by omega)) ?_)
  · rw [if_neg (by simp; omega)]
  refine Ev.congr (fun k => ?_) (Ev.now _)
  try dsimp only
  rw [made_of ng _ _ (Nat.min_le_right _ _) (mn_nat _), Option.bind_some]
theorem near_ev (ng : Bool) (D : Nat) (E : Int) (hE1 : -1100000 ≤ E) (hE2 : E ≤ 1100000) (ht : ln D ≤ 10000) :
    Ev (fun k => z3c.f k ng (dg D) E) ((nb ng D E false : Nat) : Int) := by
  unfold z3c.f
  refine Ev.bind (nearMore_ev ng D E false hE1 hE2 ht) (Ev.now _)
end Go.Proofs.YtjpiplplohapnaaGreatDoor.Big
namespace Go.Proofs.YtjpiplplohapnaaGreatDoor.Big
open Go.Proofs.YtjpiplplohapnaaGreatDoor.Nr
theorem V_inf (K : Nat) (hK : K = 2046) : V 9218868437227405312 = 4503599627370496 * 2 ^ K := by
  have h := z6g K 4503599627370496 (Or.inl ⟨by omega, by omega⟩)
  rw [show K * 4503599627370496 + 4503599627370496 = 9218868437227405312 by omega] at h
  exact h
theorem V_zero : V 0 = 0 := rfl
theorem V_one : V 1 = 1 := rfl
theorem nbS_near (D : Nat) (hD : D ≠ 0) (E : Int) (more : Bool) (N M p s : Nat) (hM : 0 < M) (hps : (p : Int) - s = E + 1074)
    (h1 : D * 2 ^ p * M ≤ N * 2 ^ s) (h2 : N * 2 ^ s < (D + 1) * 2 ^ p * M) (h3 : more = false → N * 2 ^ s = D * 2 ^ p * M) (h4 : more = true → N * 2 ^ s ≠ D * 2 ^ p * M)
    (hmore : more = true → E < lsbI D E) : ∃ r, Near N M r ∧ nbS D E more = min r 9218868437227405312 := by
  have hR := rr_near D hD E more N M p s hM hps h1 h2 h3 h4 hmore
  have hs0 : 0 < 2 ^ s := Nat.pow_pos (by decide)
  have b1 := z4b D
  have b2 := z6l hD
  have hbl : 0 < bl D := by
    rcases Nat.eq_zero_or_pos (bl D) with h | h
    · rw [h] at b1; omega
    exact h
  unfold nbS
  by_cases c1 : (bl D : Int) + E > 1100
  · rw [if_pos c1]
    refine ⟨_, hR, ?_⟩
    have hle : 9218868437227405312 ≤ rr D E more := by
      refine z4n (N := V 9218868437227405312) (D := 1) (by decide) hM ?_ (z3p (by decide) (by rw [Nat.mul_one])) hR
      obtain ⟨K, hK⟩ : ∃ K, K = 2046 := ⟨_, rfl⟩
      rw [Nat.mul_one, V_inf K hK, ← p52, ← Nat.pow_add]
      refine Nat.le_of_mul_le_mul_right ?_ hs0
      refine Nat.le_trans ?_ h1
      have e1 : 2 ^ (52 + K) * 2 ^ s ≤ D * 2 ^ p := by
        have a1 : 2 ^ (bl D - 1) * 2 ^ p ≤ D * 2 ^ p := Nat.mul_le_mul_right _ b2
        rw [← Nat.pow_add] at a1
        refine Nat.le_trans ?_ a1
        rw [← Nat.pow_add]
        exact Nat.pow_le_pow_right (by decide) (by omega)
      rw [Nat.mul_right_comm]
      exact Nat.mul_le_mul_right _ e1
    omega
  rw [if_neg c1]
  by_cases c3 : (bl D : Int) + E < -1200
  · rw [if_pos c3]
    refine ⟨0, ⟨fun q h => by omega, ?_⟩, by omega⟩
    rw [V_zero, V_one, Nat.zero_add, Nat.one_mul]
    have hlt : 2 * N < M := by
      refine Nat.lt_of_mul_lt_mul_right (a := 2 ^ s) ?_
      have a1 : (D + 1) * 2 ^ p ≤ 2 ^ bl D * 2 ^ p := Nat.mul_le_mul_right _ b1
      have a2 : (D + 1) * 2 ^ p * M ≤ 2 ^ bl D * 2 ^ p * M := Nat.mul_le_mul_right _ a1
      have a3 : 2 * (2 ^ bl D * 2 ^ p) ≤ 2 ^ s := by
        rw [← Nat.pow_add, ← Nat.pow_succ']
        exact Nat.pow_le_pow_right (by decide) (by omega)
      have a4 : 2 * (2 ^ bl D * 2 ^ p) * M ≤ 2 ^ s * M := Nat.mul_le_mul_right _ a3
      rw [Nat.mul_assoc] at a4 ⊢
      rw [Nat.mul_comm M]
      omega
    exact ⟨by omega, fun h => by omega⟩
  rw [if_neg c3]
  exact ⟨_, hR, rfl⟩
end Go.Proofs.YtjpiplplohapnaaGreatDoor.Big
namespace Go.Proofs.YtjpiplplohapnaaGreatDoor.Us
open Nr
def bln (d : Nat) : Nat := if d = 0 then 0 else d.log2 + 1
theorem z8v {d : Nat} (h : d ≠ 0) : 2 ^ (bln d - 1) ≤ d ∧ d < 2 ^ bln d ∧ 1 ≤ bln d := by
  unfold bln
  rw [if_neg h]
  exact ⟨Nat.log2_self_le h, Nat.lt_log2_self, by omega⟩
def ex : Nat := 1074
theorem z5h : ex = 1074 := rfl
def dN (d : Nat) (p : Int) : Nat := d * 10 ^ p.toNat * 2 ^ ex
def dD (p : Int) : Nat := 10 ^ (-p).toNat
theorem z3l (p : Int) : 0 < dD p := Nat.pow_pos (by decide)
def pE (d : Nat) (p : Int) : Int := min 1074 (53 - bln d - lp p)
def pS (d : Nat) (p : Int) : Int := -(pE d p - (64 - bln d) + lp p + 3)
def pU (d : Nat) (p : Int) (r : Nat × Nat) : Nat := usc (d * 2 ^ (64 - bln d)) r.1 r.2 (pS d p).toNat
def parse64 (d : Nat) (p : Int) (r : Nat × Nat) : Nat :=
  if 64 ≤ pS d p then 0
  else if pU d p r < 36028797018963966 then (1074 - pE d p).toNat * 4503599627370496 + rnd (pU d p r)
  else (1075 - pE d p).toNat * 4503599627370496 + rnd (z6b (pU d p r / 2) (decide (pU d p r % 2 = 1)))
theorem lp_spec {i : Nat} {r : Nat × Nat} (h : Pinned.pow10Rows[i]? = some r) : 2 ^ 127 * den ((i : Int) - 348) ≤ num ((i : Int) - 348) ∧ num ((i : Int) - 348) ≤ 340116213421465348979261631549233168384 * den ((i : Int) - 348) := by
  obtain ⟨hr, hb1, hb2, hb3⟩ := row_ok h
  refine ⟨hb3, ?_⟩
  have a := hr.below
  have b : r.1 * 18446744073709551616 * den ((i : Int) - 348) ≤ 340116213421465348979261631549233168384 * den ((i : Int) - 348) := Nat.mul_le_mul_right _ (by omega)
  exact Nat.le_trans (Nat.le_trans (Nat.le_add_right _ _) a) b
theorem value_ratio (d : Nat) (p E : Int) (s b l : Nat) (hE : E ≤ 1074) (hl : (l : Int) = 1074 - E) (hb : b ≤ 64) (hs : (s : Int) = -(E - (64 - b) + lp p + 3)) :
    d * 2 ^ (64 - b) * num p * (dD p * 2 ^ l) = dN d p * (4 * (den p * (340282366920938463463374607431768211456 * 2 ^ s))) := by
  unfold num den dN dD
  have hex := z5h
  have h4 : (4 : Nat) = 2 ^ 2 := rfl
  have h128 : (340282366920938463463374607431768211456 : Nat) = 2 ^ 128 := by decide
  rw [h4, h128]
  have e : 2 ^ (64 - b) * 2 ^ (127 - lp p).toNat * 2 ^ l = 2 ^ ex * 2 ^ 2 * 2 ^ (lp p - 127).toNat * 2 ^ 128 * 2 ^ s := by
    rw [← Nat.pow_add, ← Nat.pow_add, ← Nat.pow_add, ← Nat.pow_add, ← Nat.pow_add, ← Nat.pow_add]
    congr 1; omega
  generalize 2 ^ (64 - b) = a1 at *
  generalize 2 ^ (127 - lp p).toNat = a2 at *
  generalize 2 ^ l = a3 at *
  generalize 2 ^ ex = a4 at *
  generalize (2 : Nat) ^ 2 = a5 at *
  generalize 2 ^ (lp p - 127).toNat = a6 at *
  generalize (2 : Nat) ^ 128 = a7 at *
  generalize 2 ^ s = a8 at *
  generalize 10 ^ p.toNat = t1 at *
  generalize 10 ^ (-p).toNat = t2 at *
  calc d * a1 * (t1 * a2) * (t2 * a3) = (a1 * a2 * a3) * (d * t1 * t2) := by grind
    _ = (a4 * a5 * a6 * a7 * a8) * (d * t1 * t2) := by rw [e]
    _ = d * t1 * a4 * (a5 * (t2 * a6 * (a7 * a8))) := by grind
theorem le_ratio {R X N Y k : Nat} (hY : 0 < Y) (h : R * X = N * Y) (hk : k * Y ≤ R) : k * X ≤ N := by
  have := Nat.mul_le_mul_right X hk
  rw [h, Nat.mul_right_comm] at this
  exact Nat.le_of_mul_le_mul_right this hY
theorem bln_le {d k : Nat} (h : d < 2 ^ k) : bln d ≤ k := by
  by_cases h0 : d = 0
  · subst h0; unfold bln; simp
  have := z8v h0
  have h2 : 2 ^ (bln d - 1) < 2 ^ k := Nat.lt_of_le_of_lt this.1 h
  have h3 := (Nat.pow_lt_pow_iff_right (by decide : 1 < 2)).1 h2
  omega
theorem left_just {d : Nat} (h0 : d ≠ 0) (h : d < 18446744073709551616) : 9223372036854775808 ≤ d * 2 ^ (64 - bln d) ∧ d * 2 ^ (64 - bln d) < 18446744073709551616 := by
  obtain ⟨a, b, c⟩ := z8v h0
  have hb : bln d ≤ 64 := bln_le (by have : (2 : Nat) ^ 64 = 18446744073709551616 := by decide
                                     omega)
  constructor
  · have := Nat.mul_le_mul_right (2 ^ (64 - bln d)) a
    rw [← Nat.pow_add, show bln d - 1 + (64 - bln d) = 63 by omega] at this
    exact this
  have := Nat.mul_lt_mul_of_pos_right b (Nat.pow_pos (a := 2) (n := 64 - bln d) (by decide))
  rw [← Nat.pow_add, show bln d + (64 - bln d) = 64 by omega] at this
  exact this
theorem parse64_near {i : Nat} {r : Nat × Nat} (h : Pinned.pow10Rows[i]? = some r) {d : Nat} (h0 : d ≠ 0) (hd : d < 18446744073709551616) :
    Near (dN d ((i : Int) - 348)) (dD ((i : Int) - 348)) (parse64 d ((i : Int) - 348) r) ∧
    (64 ≤ pS d ((i : Int) - 348) ∨ (8 ≤ pS d ((i : Int) - 348) ∧ (pU d ((i : Int) - 348) r < 36028797018963966 → rnd (pU d ((i : Int) - 348) r) < 9007199254740992 ∧ (pE d ((i : Int) - 348) ≠ 1074 → 4503599627370496 ≤ rnd (pU d ((i : Int) - 348) r))) ∧
      (36028797018963966 ≤ pU d ((i : Int) - 348) r → rnd (z6b (pU d ((i : Int) - 348) r / 2) (decide (pU d ((i : Int) - 348) r % 2 = 1))) < 9007199254740992 ∧ 4503599627370496 ≤ rnd (z6b (pU d ((i : Int) - 348) r / 2) (decide (pU d ((i : Int) - 348) r % 2 = 1)))))) := by
  obtain ⟨hlo, hhi⟩ := lp_spec h
  obtain ⟨hx1, hx2⟩ := left_just h0 hd
  obtain ⟨hb1, hb2, hb3⟩ := z8v h0
  have hb : bln d ≤ 64 := bln_le hd
  have hr := (row_ok h).1
  have hclean := @clean_parse i r h (d * 2 ^ (64 - bln d))
  generalize (i : Int) - 348 = p at *
  have hE : pE d p = min 1074 (53 - bln d - lp p) := rfl
  have hS : pS d p = -(pE d p - (64 - bln d) + lp p + 3) := rfl
  have hDp := z3l p
  unfold parse64 pU
  generalize pE d p = E at *
  generalize pS d p = S at *
  by_cases c1 : 64 ≤ S
  · rw [if_pos c1]
    refine ⟨?_, Or.inl c1⟩
    have hE' : E = 1074 := by omega
    have hlb : lp p + bln d ≤ -1077 := by omega
    have g : 2 * dN d p ≤ dD p := by
      have g1 : num p = 10 ^ p.toNat * 2 ^ (127 - lp p).toNat := rfl
      have g2 : den p = 10 ^ (-p).toNat := by
        unfold den
        rw [show (lp p - 127).toNat = 0 by omega, Nat.pow_zero, Nat.mul_one]
      have g3 : 10 ^ p.toNat * 2 ^ (127 - lp p).toNat ≤ 10 ^ (-p).toNat * 2 ^ 128 := by
        rw [← g1, ← g2]
        have : 340116213421465348979261631549233168384 * den p ≤ 2 ^ 128 * den p := Nat.mul_le_mul_right _ (by decide)
        rw [Nat.mul_comm (den p)]
        omega
      have g4 : 10 ^ p.toNat * 2 ^ (-1 - lp p).toNat ≤ 10 ^ (-p).toNat := by
        rw [show (127 - lp p).toNat = (-1 - lp p).toNat + 128 by omega, Nat.pow_add, ← Nat.mul_assoc] at g3
        exact Nat.le_of_mul_le_mul_right g3 (Nat.pow_pos (by decide))
      unfold dN dD
      have g5 : 2 * (d * 10 ^ p.toNat * 2 ^ ex) ≤ 10 ^ p.toNat * (2 ^ bln d * 2 ^ (ex + 1)) := by
        have : d * (10 ^ p.toNat * 2 ^ (ex + 1)) ≤ 2 ^ bln d * (10 ^ p.toNat * 2 ^ (ex + 1)) := Nat.mul_le_mul_right _ (Nat.le_of_lt hb2)
        have e : (2 : Nat) ^ (ex + 1) = 2 ^ ex * 2 := by rw [Nat.pow_succ]
        rw [e] at this ⊢
        generalize (2 : Nat) ^ ex = z at *
        generalize 10 ^ p.toNat = t at *
        generalize 2 ^ bln d = y at *
        calc 2 * (d * t * z) = d * (t * (z * 2)) := by grind
          _ ≤ y * (t * (z * 2)) := this
          _ = t * (y * (z * 2)) := by grind
      have g6 : 2 ^ bln d * 2 ^ (ex + 1) ≤ 2 ^ (-1 - lp p).toNat := by
        rw [← Nat.pow_add]; exact Nat.pow_le_pow_right (by decide) (by rw [z5h]; omega)
      exact Nat.le_trans g5 (Nat.le_trans (Nat.mul_le_mul_left _ g6) g4)
    have := z3h (N := dN d p) (D := dD p) (l := 0) (n := 0) hDp ⟨by omega, by omega, fun _ => rfl, fun _ => rfl⟩ (Or.inr ⟨rfl, by omega⟩)
    simpa using this
  rw [if_neg c1]
  have hs8 : 8 ≤ S := by omega
  obtain ⟨s, hs⟩ : ∃ s : Nat, (s : Int) = S := ⟨S.toNat, by omega⟩
  have hsS : S.toNat = s := by omega
  rw [hsS]
  have hu := usc_ok (s := s) hx2 (by omega) hr (hclean (s := s) (by omega) hx1 hx2)
  obtain ⟨l, hl⟩ : ∃ l : Nat, (l : Int) = 1074 - E := ⟨(1074 - E).toNat, by omega⟩
  have hrat := value_ratio d p E s (bln d) l (by omega) hl hb (by omega)
  have hrat2 := value_ratio d p (E - 1) (s + 1) (bln d) (l + 1) (by omega) (by omega) hb (by omega)
  rw [hu]
  have hp : 0 < 2 ^ s := Nat.pow_pos (by decide)
  obtain ⟨Dn, hDn⟩ : ∃ Dn, Dn = den p * (340282366920938463463374607431768211456 * 2 ^ s) := ⟨_, rfl⟩
  have hDn0 : 0 < Dn := by rw [hDn]; exact Nat.mul_pos hr.dpos (Nat.mul_pos (by decide) hp)
  have hDn2 : den p * (340282366920938463463374607431768211456 * 2 ^ (s + 1)) = Dn * 2 := by
    rw [hDn, Nat.pow_succ, Nat.mul_assoc, Nat.mul_assoc]
  rw [← hDn] at hrat ⊢
  rw [hDn2] at hrat2
  have hR : d * 2 ^ (64 - bln d) * num p < 18446744073709551616 * num p := Nat.mul_lt_mul_of_pos_right hx2 (Nat.lt_of_lt_of_le (Nat.mul_pos (by decide) hr.dpos) hlo)
  have hR2 : 9223372036854775808 * num p ≤ d * 2 ^ (64 - bln d) * num p := Nat.mul_le_mul_right _ hx1
  have hs256 : 256 ≤ 2 ^ s := by
    have : 2 ^ 8 ≤ 2 ^ s := Nat.pow_le_pow_right (by decide) (by omega)
    exact this
  have hDle : 87112285931760246646623899502532662132736 * den p ≤ Dn := by
    rw [hDn, Nat.mul_comm _ (den p)]
    exact Nat.mul_le_mul_left _ (by omega)
  have htop : d * 2 ^ (64 - bln d) * num p ≤ 9002801208229888 * (4 * (Dn * 2)) := by omega
  generalize d * 2 ^ (64 - bln d) * num p = R at *
  have hn1 : pE d p ≠ 1074 → True := fun _ => trivial
  have hlow : E ≠ 1074 → 4503599627370496 * (4 * Dn) ≤ R := by
    intro hne
    have hs' : s = 8 := by omega
    have : Dn = 87112285931760246646623899502532662132736 * den p := by
      rw [hDn, hs', Nat.mul_comm (den p)]
    omega
  have rh1 := rnd_rhe (N := R) (D := Dn) hDn0
  have rh2 := rnd_rhe (N := R) (D := Dn * 2) (by omega)
  rw [unr_scale hDn0 (by decide) (by decide)] at rh2
  have hst : (decide (unr R Dn % 2 = 1) || decide (unr R Dn % 2 ≠ 0)) = decide (unr R Dn % 2 = 1) := by
    rcases Nat.mod_two_eq_zero_or_one (unr R Dn) with h | h <;> simp [h]
  rw [hst] at rh2
  have hX : 0 < dD p * 2 ^ l := Nat.mul_pos hDp (Nat.pow_pos (by decide))
  have hX2 : 0 < dD p * 2 ^ (l + 1) := Nat.mul_pos hDp (Nat.pow_pos (by decide))
  have nr1 := z7q (Nat.mul_pos (by decide) hDn0) hX hrat rh1
  have nr2 := z7q (Nat.mul_pos (by decide) (by omega : 0 < Dn * 2)) hX2 hrat2 rh2
  have hlt2 : rnd (z6b (unr R Dn / 2) (decide (unr R Dn % 2 = 1))) < 9007199254740992 := by
    have := rhe_le (by omega) rh2 htop
    omega
  have hge1 : E ≠ 1074 → 4503599627370496 ≤ rnd (unr R Dn) := fun hne => rhe_ge (by omega) rh1 (hlow hne)
  have hlt1 : unr R Dn < 36028797018963966 → rnd (unr R Dn) < 9007199254740992 := fun hc => rnd_lt (by omega)
  have hge2 : 36028797018963966 ≤ unr R Dn → 4503599627370496 ≤ rnd (z6b (unr R Dn / 2) (decide (unr R Dn % 2 = 1))) := by
    intro hc
    refine rnd_ge' ?_ (by decide)
    unfold z6b
    split <;> omega
  refine ⟨?_, Or.inr ⟨hs8, fun hc => ⟨hlt1 hc, hge1⟩, fun hc => ⟨hlt2, hge2 hc⟩⟩⟩
  by_cases c2 : unr R Dn < 36028797018963966
  · rw [if_pos c2]
    have hlt := hlt1 c2
    rw [show (1074 - E).toNat = l by omega]
    refine z3h hDp nr1 ?_
    by_cases hne : E = 1074
    · right; exact ⟨by omega, by omega⟩
    left
    exact ⟨hge1 hne, by omega, fun _ => le_ratio (Nat.mul_pos (by decide) hDn0) hrat (hlow hne)⟩
  rw [if_neg c2]
  have hge := hge2 (by omega)
  rw [show (1075 - E).toNat = l + 1 by omega]
  by_cases c3 : 4503599627370496 * (4 * (Dn * 2)) ≤ R
  · refine z3h hDp nr2 (Or.inl ⟨hge, by omega, fun _ => le_ratio (by omega) hrat2 c3⟩)
  have a1 : rnd (z6b (unr R Dn / 2) (decide (unr R Dn % 2 = 1))) = 4503599627370496 := Nat.le_antisymm (rhe_le (by omega) rh2 (by omega)) hge
  have a2 : rnd (unr R Dn) = 9007199254740992 := Nat.le_antisymm (rhe_le (by omega) rh1 (by omega)) (rnd_ge (by omega) (by decide) (by decide))
  rw [a1]
  have := z3h (l := l) hDp nr1
  rw [a2] at this
  have := this (by
    by_cases hne : E = 1074
    · right; exact ⟨by omega, by omega⟩
    left; exact ⟨by omega, by omega, fun _ => le_ratio (Nat.mul_pos (by decide) hDn0) hrat (hlow hne)⟩)
  rw [show (l + 1) * 4503599627370496 + 4503599627370496 = l * 4503599627370496 + 9007199254740992 by omega]
  exact this
end Go.Proofs.YtjpiplplohapnaaGreatDoor.Us
namespace Go.Proofs.YtjpiplplohapnaaGreatDoor.Nr
open Us
def rM (r : Nat) : Nat := if r < 4503599627370496 then r else 4503599627370496 + r % 4503599627370496
def rP (r : Nat) : Int := if r < 4503599627370496 then -1074 else -1074 + ((r / 4503599627370496 - 1 : Nat) : Int)
theorem rP_ge (r : Nat) : -1074 ≤ rP r := by unfold rP; split <;> omega
theorem rM_V (r : Nat) : rM r * 2 ^ (rP r + 1074).toNat = V r := by
  unfold rM rP V
  by_cases h : r < 4503599627370496
  · rw [if_pos h, if_pos h, if_pos h, show ((-1074 : Int) + 1074).toNat = 0 by decide, Nat.pow_zero, Nat.mul_one]
  rw [if_neg h, if_neg h, if_neg h, show (-1074 + ((r / 4503599627370496 - 1 : Nat) : Int) + 1074).toNat = r / 4503599627370496 - 1 by omega]
theorem rM_pos {r : Nat} (h : 0 < r) : 0 < rM r := by unfold rM; split <;> omega
theorem V_pos {r : Nat} (h : 0 < r) : 0 < V r := by
  have := V_lt h
  omega
theorem z6x (s : Bool) (r : Nat) : Ieee.double.word s r = (if s then 9223372036854775808 else 0) + r := by
  have e5 : Ieee.double.signWeight = 9223372036854775808 := by decide
  unfold Ieee.Format.word
  rw [e5]
  cases s <;> simp
theorem z4x (s : Bool) (r : Nat) (h : r < 9218868437227405312) : Ieee.double.read (Ieee.double.word s r) = .number s (rM r) (rP r) := by
  have e1 : Ieee.double.leastPlace = -1074 := by decide
  have e3 : Ieee.double.binade = 4503599627370496 := by decide
  have e4 : Ieee.double.infRung = 9218868437227405312 := by decide
  have e5 : Ieee.double.signWeight = 9223372036854775808 := by decide
  have hw1 : Ieee.double.word s r / 9223372036854775808 % 2 = (if s then 1 else 0) := by
    rw [z6x]; cases s
    · rw [if_neg (by decide), if_neg (by decide)]; omega
    rw [if_pos rfl, if_pos rfl]; omega
  have hw2 : Ieee.double.word s r % 9223372036854775808 = r := by
    rw [z6x]; cases s
    · rw [if_neg (by decide)]; omega
    rw [if_pos rfl]; omega
  unfold Ieee.Format.read
  dsimp only
  rw [e1, e3, e4, e5, hw1, hw2]
  unfold rM rP
  by_cases c : r < 4503599627370496
  · rw [if_pos c, if_pos c, if_pos c]; cases s <;> rfl
  rw [if_neg c, if_neg c, if_neg c, if_pos h]; cases s <;> rfl
theorem z7e (s : Bool) (m : Nat) (p : Int) : Ieee.double.write (.number s m p) = Ieee.double.word s (min (rung m p) 9218868437227405312) := nearest_rung s m p
theorem z4l {N D N' D' r : Nat} (hD : 0 < D) (hD' : 0 < D') (h : N * D' = N' * D) (h1 : Near N D r) : Near N' D' r := by
  obtain ⟨a, b, c⟩ := h1
  have key : ∀ k : Nat, (k * D ≤ 2 * N ↔ k * D' ≤ 2 * N') ∧ (2 * N ≤ k * D ↔ 2 * N' ≤ k * D') := by
    intro k
    have e1 : k * D * D' = k * D' * D := by grind
    have e2 : 2 * N * D' = 2 * N' * D := by rw [Nat.mul_assoc, h, Nat.mul_assoc]
    constructor
    · constructor
      · intro h; have := Nat.mul_le_mul_right D' h; rw [e1, e2] at this; exact Nat.le_of_mul_le_mul_right this hD
      intro h; have := Nat.mul_le_mul_right D h; rw [← e1, ← e2] at this; exact Nat.le_of_mul_le_mul_right this hD'
    constructor
    · intro h; have := Nat.mul_le_mul_right D' h; rw [e1, e2] at this; exact Nat.le_of_mul_le_mul_right this hD
    intro h; have := Nat.mul_le_mul_right D h; rw [← e1, ← e2] at this; exact Nat.le_of_mul_le_mul_right this hD'
  refine ⟨fun q hq => ?_, ?_, ?_⟩
  · obtain ⟨g1, g2⟩ := a q hq
    obtain ⟨k1, k2⟩ := key (V q + V r)
    exact ⟨k1.1 g1, fun h => g2 (Nat.le_antisymm g1 (k2.2 (by omega)))⟩
  · exact (key _).2.1 b
  intro h
  obtain ⟨k1, k2⟩ := key (V r + V (r + 1))
  exact c (Nat.le_antisymm b (k1.2 (by omega)))
theorem z6p (s t : Bool) (a b : Nat) (ha : a < 9218868437227405312) (hb : b < 9218868437227405312) :
    ∃ r, Near (V a * V b) (2 ^ ex) r ∧ Ieee.double.mul (Ieee.double.word s a) (Ieee.double.word t b) = some (Ieee.double.word (s ^^ t) (min r 9218868437227405312)) := by
  refine ⟨rung (rM a * rM b) (rP a + rP b), ?_, ?_⟩
  · have h := rung_near (rM a * rM b) (rP a + rP b)
    refine z4l (uD_pos _) (Nat.pow_pos (by decide)) ?_ h
    have h1 := rM_V a
    have h2 := rM_V b
    have g1 := rP_ge a
    have g2 := rP_ge b
    unfold uN uD
    rw [← h1, ← h2]
    have hex := z5h
    have e : 2 ^ (rP a + rP b + 1074).toNat * 2 ^ ex = 2 ^ (rP a + 1074).toNat * 2 ^ (rP b + 1074).toNat * 2 ^ (-1074 - (rP a + rP b)).toNat := by
      rw [← Nat.pow_add, ← Nat.pow_add, ← Nat.pow_add]
      congr 1; omega
    generalize 2 ^ (rP a + rP b + 1074).toNat = x1 at *
    generalize 2 ^ ex = x2 at *
    generalize 2 ^ (rP a + 1074).toNat = x3 at *
    generalize 2 ^ (rP b + 1074).toNat = x4 at *
    generalize 2 ^ (-1074 - (rP a + rP b)).toNat = x5 at *
    calc rM a * rM b * x1 * x2 = rM a * rM b * (x1 * x2) := by grind
      _ = rM a * rM b * (x3 * x4 * x5) := by rw [e]
      _ = rM a * x3 * (rM b * x4) * x5 := by grind
  unfold Ieee.Format.mul
  rw [z4x s a ha, z4x t b hb]
  show some (Ieee.double.write (.number (s ^^ t) (rM a * rM b) (rP a + rP b))) = _
  rw [z7e]
theorem rhe_sticky {q rem n G k : Nat} (hr : rem < n) (h : Rhe (2 * q + (if rem = 0 then 0 else 1)) (4 * G) k) : Rhe (2 * (q * n + rem)) (n * (4 * G)) k := by
  obtain ⟨h1, h2, h3, h4⟩ := h
  have key : ∀ t : Nat, ((2 * q + (if rem = 0 then 0 else 1) ≤ 2 * t) ↔ q * n + rem ≤ t * n) ∧ ((2 * t ≤ 2 * q + (if rem = 0 then 0 else 1)) ↔ t * n ≤ q * n + rem) := by
    intro t
    by_cases h0 : rem = 0
    · subst h0
      rw [if_pos rfl]
      constructor
      · constructor
        · intro h; have := Nat.mul_le_mul_right n (show q ≤ t by omega); omega
        intro h
        have := Nat.le_of_mul_le_mul_right (show q * n ≤ t * n by omega) hr
        omega
      constructor
      · intro h; have := Nat.mul_le_mul_right n (show t ≤ q by omega); omega
      intro h
      have := Nat.le_of_mul_le_mul_right (show t * n ≤ q * n by omega) hr
      omega
    rw [if_neg h0]
    constructor
    · constructor
      · intro h; have := Nat.mul_le_mul_right n (show q + 1 ≤ t by omega); rw [Nat.add_mul, Nat.one_mul] at this; omega
      intro h
      rcases Nat.lt_or_ge q t with g | g
      · omega
      have := Nat.mul_le_mul_right n g; omega
    constructor
    · intro h; have := Nat.mul_le_mul_right n (show t ≤ q by omega); omega
    intro h
    rcases Nat.lt_or_ge q t with g | g
    · have := Nat.mul_le_mul_right n (show q + 1 ≤ t by omega); rw [Nat.add_mul, Nat.one_mul] at this; omega
    omega
  generalize (if rem = 0 then 0 else 1) = s at *
  have e1 : (2 * k + 1) * (4 * G) = 2 * (2 * ((2 * k + 1) * G)) := by grind
  have e2 : (2 * k + 1) * (n * (4 * G)) = 4 * ((2 * k + 1) * G * n) := by grind
  obtain ⟨k1, k2⟩ := key ((2 * k + 1) * G)
  refine ⟨?_, ?_, ?_, ?_⟩
  · rw [e2]
    have := k1.1 (by omega)
    omega
  · have e3 : n * (4 * G) = 4 * (G * n) := by grind
    have e4 : 2 * k * (n * (4 * G)) = 4 * (2 * k * G * n) := by grind
    have e5 : 2 * k * (4 * G) = 4 * (2 * k * G) := by grind
    rw [e3] at e4 ⊢
    rw [e4]
    by_cases hk : k = 0
    · subst hk; simp
    have e6 : 2 * k * G = (2 * k - 1) * G + G := by
      rw [← Nat.succ_mul]; congr 1; omega
    obtain ⟨k3, k4⟩ := key ((2 * k - 1) * G)
    have := k4.1 (by omega)
    rw [e6, Nat.add_mul]
    omega
  · intro h
    rw [e2] at h
    have g1 := k1.1 (by omega)
    have g2 := k2.2 (by omega)
    exact h3 (by omega)
  intro h
  by_cases hk : k = 0
  · subst hk; rfl
  have e3 : n * (4 * G) = 4 * (G * n) := by grind
  have e4 : 2 * k * (n * (4 * G)) = 4 * (2 * k * G * n) := by grind
  have e5 : 2 * k * (4 * G) = 4 * (2 * k * G) := by grind
  have e6 : 2 * k * G = (2 * k - 1) * G + G := by
    rw [← Nat.succ_mul]; congr 1; omega
  obtain ⟨k3, k4⟩ := key ((2 * k - 1) * G)
  rw [e3] at e4 h
  rw [e4, e6, Nat.add_mul] at h
  have g1 := k3.2 (by omega)
  have g2 := k4.2 (by omega)
  exact h4 (by omega)
theorem sticky_near (q rem n : Nat) (P : Int) (hr : rem < n) (hq : 9007199254740992 ≤ q) :
    Near (2 * (q * n + rem) * 2 ^ (P + 1074).toNat) (n * 2 ^ (-1074 - P).toNat) (rung (2 * q + (if rem = 0 then 0 else 1)) P) := by
  have hn : 0 < n := by omega
  obtain ⟨mag, hm⟩ : ∃ mag, mag = 2 * q + (if rem = 0 then 0 else 1) := ⟨_, rfl⟩
  have hmq : 2 * q ≤ mag ∧ mag ≤ 2 * q + 1 := by rw [hm]; split <;> omega
  have h : ¬ mag = 0 := by omega
  rw [← hm]
  unfold rung
  rw [if_neg h]
  dsimp only
  obtain ⟨last, hl⟩ : ∃ last, last = max (P + mag.log2 - 52) (-1074) := ⟨_, rfl⟩
  rw [← hl]
  have hc := cut_rhe false (mag <<< (P - last).toNat) (last - P).toNat
  generalize Ieee.Toward.even.cut false (mag <<< (P - last).toNat) (last - P).toNat = k at *
  have hlo := Nat.log2_self_le h
  have hhi : mag < 2 ^ (mag.log2 + 1) := Nat.lt_log2_self
  have hlg : 54 ≤ mag.log2 := by
    rw [Nat.le_log2 h]
    have : (2 : Nat) ^ 54 = 18014398509481984 := by decide
    omega
  obtain ⟨d, hd⟩ : ∃ d : Nat, (d : Int) = last - P - 2 := ⟨(last - P - 2).toNat, by omega⟩
  rw [show (P - last).toNat = 0 by omega, show (last - P).toNat = d + 2 by omega, Nat.shiftLeft_eq, Nat.pow_zero, Nat.mul_one] at hc
  have hG : (2 : Nat) ^ (d + 2) = 4 * 2 ^ d := by rw [Nat.pow_add, Nat.mul_comm]
  have hn53 : k ≤ 9007199254740992 := by
    refine rhe_le (Nat.pow_pos (by decide)) hc ?_
    have p53 : 9007199254740992 = 2 ^ 53 := by decide
    rw [p53, ← Nat.pow_add]
    exact Nat.le_trans (Nat.le_of_lt hhi) (Nat.pow_le_pow_right (by decide) (by omega))
  have hlow : last ≠ -1074 → 4503599627370496 * 2 ^ (d + 2) ≤ mag := by
    intro h0
    have p52 : 4503599627370496 = 2 ^ 52 := by decide
    rw [p52, ← Nat.pow_add]
    exact Nat.le_trans (Nat.pow_le_pow_right (by decide) (by omega)) hlo
  have hn52 : last ≠ -1074 → 4503599627370496 ≤ k := fun h0 => rhe_ge (Nat.pow_pos (by decide)) hc (hlow h0)
  rw [hG, hm] at hc
  have hs := rhe_sticky hr hc
  have hp : 0 < 2 ^ d := Nat.pow_pos (by decide)
  have hX : 0 < n * 2 ^ (-1074 - P).toNat := Nat.mul_pos hn (Nat.pow_pos (by decide))
  have hX2 : 0 < n * 2 ^ (-1074 - P).toNat * 2 ^ (last + 1074).toNat := Nat.mul_pos hX (Nat.pow_pos (by decide))
  have hrat : 2 * (q * n + rem) * (n * 2 ^ (-1074 - P).toNat * 2 ^ (last + 1074).toNat) = 2 * (q * n + rem) * 2 ^ (P + 1074).toNat * (n * (4 * 2 ^ d)) := by
    have e : 2 ^ (-1074 - P).toNat * 2 ^ (last + 1074).toNat = 2 ^ (P + 1074).toNat * 2 ^ (d + 2) := by
      rw [← Nat.pow_add, ← Nat.pow_add]; congr 1; omega
    rw [← hG]
    generalize 2 ^ (-1074 - P).toNat = x1 at *
    generalize 2 ^ (last + 1074).toNat = x2 at *
    generalize 2 ^ (P + 1074).toNat = x3 at *
    generalize 2 ^ (d + 2) = x4 at *
    calc 2 * (q * n + rem) * (n * x1 * x2) = 2 * (q * n + rem) * n * (x1 * x2) := by grind
      _ = 2 * (q * n + rem) * n * (x3 * x4) := by rw [e]
      _ = 2 * (q * n + rem) * x3 * (n * x4) := by grind
  refine z3h hX (z7q (Nat.mul_pos hn (by omega)) hX2 hrat hs) ?_
  by_cases h0 : last = -1074
  · right; exact ⟨by omega, hn53⟩
  left
  refine ⟨hn52 h0, hn53, fun _ => ?_⟩
  have a := hlow h0
  rw [hG] at a
  have b : 4503599627370496 * (4 * 2 ^ d) ≤ 2 * q := by
    have : 4503599627370496 * (4 * 2 ^ d) = 2 * (4503599627370496 * (2 * 2 ^ d)) := by grind
    omega
  have c := Nat.mul_le_mul_right n b
  have c2 : 4503599627370496 * (n * (4 * 2 ^ d)) ≤ 2 * (q * n + rem) := by
    have e : 4503599627370496 * (n * (4 * 2 ^ d)) = 4503599627370496 * (4 * 2 ^ d) * n := by grind
    have e2 : 2 * q * n = 2 * (q * n) := Nat.mul_assoc _ _ _
    omega
  have c3 := Nat.mul_le_mul_right (n * 2 ^ (-1074 - P).toNat * 2 ^ (last + 1074).toNat) c2
  rw [hrat, Nat.mul_right_comm] at c3
  exact Nat.le_of_mul_le_mul_right c3 (Nat.mul_pos hn (by omega))
theorem div_near (s t : Bool) (a b : Nat) (ha : a < 9218868437227405312) (hb : b < 9218868437227405312) (hb0 : 0 < b) (ha0 : 0 < a) :
    ∃ r, Near (V a * 2 ^ ex) (V b) r ∧ Ieee.double.div (Ieee.double.word s a) (Ieee.double.word t b) = some (Ieee.double.word (s ^^ t) (min r 9218868437227405312)) := by
  have hn := rM_pos hb0
  have hm := rM_pos ha0
  obtain ⟨more, hmore⟩ : ∃ more, more = 54 + (rM b).log2 - (rM a).log2 := ⟨_, rfl⟩
  have hdm := Nat.div_add_mod (rM a <<< more) (rM b)
  have hmd := Nat.mod_lt (rM a <<< more) hn
  have hqge : 9007199254740992 ≤ rM a <<< more / rM b := by
    rw [Nat.le_div_iff_mul_le hn, Nat.shiftLeft_eq]
    have h1 : 2 ^ (rM a).log2 ≤ rM a := Nat.log2_self_le (by omega)
    have h2 : rM b < 2 ^ ((rM b).log2 + 1) := Nat.lt_log2_self
    have p53 : 9007199254740992 = 2 ^ 53 := by decide
    have h3 : 2 ^ 53 * rM b ≤ 2 ^ 53 * 2 ^ ((rM b).log2 + 1) := Nat.mul_le_mul_left _ (Nat.le_of_lt h2)
    have h4 : 2 ^ (rM a).log2 * 2 ^ more ≤ rM a * 2 ^ more := Nat.mul_le_mul_right _ h1
    rw [← Nat.pow_add] at h3 h4
    have h5 : 2 ^ (53 + ((rM b).log2 + 1)) ≤ 2 ^ ((rM a).log2 + more) := Nat.pow_le_pow_right (by decide) (by omega)
    rw [p53]
    omega
  refine ⟨rung (2 * (rM a <<< more / rM b) + (if rM a <<< more % rM b = 0 then 0 else 1)) (rP a - rP b - more - 1), ?_, ?_⟩
  · have h := sticky_near (rM a <<< more / rM b) (rM a <<< more % rM b) (rM b) (rP a - rP b - more - 1) hmd hqge
    rw [Nat.mul_comm (rM a <<< more / rM b) (rM b), hdm, Nat.shiftLeft_eq] at h
    rw [Nat.shiftLeft_eq]
    refine z4l (Nat.mul_pos hn (Nat.pow_pos (by decide))) (V_pos hb0) ?_ h
    have h1 := rM_V a
    have h2 := rM_V b
    have g1 := rP_ge a
    have g2 := rP_ge b
    have hex := z5h
    have e : 2 * 2 ^ more * 2 ^ (rP a - rP b - more - 1 + 1074).toNat * 2 ^ (rP b + 1074).toNat = 2 ^ (rP a + 1074).toNat * 2 ^ ex * 2 ^ (-1074 - (rP a - rP b - more - 1)).toNat := by
      rw [show 2 * 2 ^ more = 2 ^ (more + 1) by rw [Nat.pow_succ, Nat.mul_comm], ← Nat.pow_add, ← Nat.pow_add, ← Nat.pow_add, ← Nat.pow_add]
      congr 1; omega
    rw [← h1, ← h2]
    generalize 2 ^ (rP a - rP b - more - 1 + 1074).toNat = x1 at *
    generalize 2 ^ ex = x2 at *
    generalize 2 ^ (rP a + 1074).toNat = x3 at *
    generalize 2 ^ (rP b + 1074).toNat = x4 at *
    generalize 2 ^ (-1074 - (rP a - rP b - more - 1)).toNat = x5 at *
    generalize 2 ^ more = x6 at *
    calc 2 * (rM a * x6) * x1 * (rM b * x4) = rM a * rM b * (2 * x6 * x1 * x4) := by grind
      _ = rM a * rM b * (x3 * x2 * x5) := by rw [e]
      _ = rM a * x3 * x2 * (rM b * x5) := by grind
  unfold Ieee.Format.div
  rw [z4x s a ha, z4x t b hb]
  unfold Ieee.Datum.quotient
  dsimp only
  rw [if_neg (show ¬ rM b = 0 by omega)]
  have e2 : Ieee.double.fractionBits + 2 + (rM b).log2 - (rM a).log2 = more := by rw [hmore]; rfl
  rw [e2]
  have e3 : (rM a <<< more % rM b != 0).toNat = (if rM a <<< more % rM b = 0 then 0 else 1) := by
    by_cases h0 : rM a <<< more % rM b = 0
    · rw [if_pos h0, h0]; rfl
    rw [if_neg h0]; simp [h0]
  rw [e3]
  show some (Ieee.double.write _) = _
  rw [z7e]
theorem rung_int (d : Nat) (hd : d < 9007199254740992) : ∃ r, V r = d * 2 ^ ex ∧ r < 4899916394579099648 ∧ rung d 0 = r ∧ (0 < d → 0 < r) := by
  have hN := rung_near d 0
  have hex : ∃ r, V r = d * 2 ^ ex ∧ r < 4899916394579099648 := by
    by_cases h0 : d = 0
    · subst h0
      exact ⟨0, by rw [Nat.zero_mul]; rfl, by decide⟩
    have hlo := Nat.log2_self_le h0
    have hhi : d < 2 ^ (d.log2 + 1) := Nat.lt_log2_self
    have hlg : d.log2 ≤ 52 := by
      have : d.log2 < 53 := (Nat.log2_lt h0).2 (by have : (2 : Nat) ^ 53 = 9007199254740992 := by decide
                                                   omega)
      omega
    have p53 : (9007199254740992 : Nat) = 2 ^ 53 := by decide
    have p52 : (4503599627370496 : Nat) = 2 ^ 52 := by decide
    have a1 : 4503599627370496 ≤ d * 2 ^ (52 - d.log2) := by
      have := Nat.mul_le_mul_right (2 ^ (52 - d.log2)) hlo
      rw [← Nat.pow_add, show d.log2 + (52 - d.log2) = 52 by omega, ← p52] at this
      exact this
    have a2 : d * 2 ^ (52 - d.log2) < 9007199254740992 := by
      have := Nat.mul_lt_mul_of_pos_right hhi (Nat.pow_pos (a := 2) (n := 52 - d.log2) (by decide))
      rw [← Nat.pow_add, show d.log2 + 1 + (52 - d.log2) = 53 by omega, ← p53] at this
      exact this
    refine ⟨(1022 + d.log2) * 4503599627370496 + d * 2 ^ (52 - d.log2), ?_, ?_⟩
    · rw [z6g _ _ (Or.inl ⟨a1, Nat.le_of_lt a2⟩), Nat.mul_assoc, ← Nat.pow_add]
      congr 2; have := z5h; omega
    generalize d * 2 ^ (52 - d.log2) = y at *
    omega
  obtain ⟨r, hr, hlt⟩ := hex
  refine ⟨r, hr, hlt, ?_, ?_⟩
  · have h2 : Near (d * 2 ^ ex) 1 r := z3p (by decide) (by rw [hr, Nat.mul_one])
    refine z5a (uD_pos _) (by decide) ?_ hN h2
    unfold uN uD
    have := z5h
    rw [show ((0 : Int) + 1074).toNat = ex by rw [z5h]; rfl, show (-1074 - (0 : Int)).toNat = 0 by decide]
  intro h0
  rcases Nat.eq_zero_or_pos r with h | h
  · subst h
    have hp : 0 < d * 2 ^ ex := Nat.mul_pos h0 (Nat.pow_pos (by decide))
    have : V 0 = 0 := rfl
    omega
  exact h
theorem z3g (d : Nat) (hd : d < 9007199254740992) : ∃ r, V r = d * 2 ^ ex ∧ r < 4899916394579099648 ∧ (0 < d → 0 < r) ∧ floatOfInt .f64 (d : Int) = r := by
  obtain ⟨r, h1, h2, h3, h4⟩ := rung_int d hd
  refine ⟨r, h1, h2, h4, ?_⟩
  show Ieee.double.write (.number (decide ((d : Int) < 0)) (d : Int).natAbs 0) = r
  rw [decide_eq_false (by omega), Int.natAbs_natCast, z7e, h3, z6x, Nat.min_eq_left (by omega)]
  simp
theorem signed_rung (s : Bool) (r : Nat) (b : Int) (hb : b = -1074) : Ieee.signed s (rM r) (rP r - b).toNat = if s then -(V r : Int) else (V r : Int) := by
  unfold Ieee.signed
  rw [Nat.shiftLeft_eq, show (rP r - b).toNat = (rP r + 1074).toNat by omega, rM_V]
def wV (s : Bool) (r : Nat) : Int := if s then -(V r : Int) else (V r : Int)
theorem z8y (s : Bool) (m k j : Nat) : Ieee.signed s m (k + j) = Ieee.signed s m k * (2 ^ j : Nat) := by
  unfold Ieee.signed
  rw [Nat.shiftLeft_eq, Nat.shiftLeft_eq, Nat.pow_add, ← Nat.mul_assoc]
  split
  · rw [Int.neg_mul, Int.natCast_mul]
  rw [Int.natCast_mul]
theorem cmp_lt {x y : Int} (h : x < y) : compare x y = .lt := by
  show compareOfLessAndEq x y = .lt
  unfold compareOfLessAndEq
  rw [if_pos h]
theorem cmp_eq (x : Int) : compare x x = .eq := by
  show compareOfLessAndEq x x = .eq
  unfold compareOfLessAndEq
  rw [if_neg (by omega), if_pos rfl]
theorem cmp_gt {x y : Int} (h : y < x) : compare x y = .gt := by
  show compareOfLessAndEq x y = .gt
  unfold compareOfLessAndEq
  rw [if_neg (by omega), if_neg (by omega)]
theorem compare_scale (x y : Int) (k : Nat) (hk : 0 < k) : compare (x * (k : Int)) (y * (k : Int)) = compare x y := by
  have hk' : (0 : Int) < k := by omega
  rcases Int.lt_trichotomy x y with h | h | h
  · rw [cmp_lt h, cmp_lt (Int.mul_lt_mul_of_pos_right h hk')]
  · subst h; rw [cmp_eq, cmp_eq]
  rw [cmp_gt h, cmp_gt (Int.mul_lt_mul_of_pos_right h hk')]
theorem z8j (s t : Bool) (a b : Nat) (ha : a < 9218868437227405312) (hb : b < 9218868437227405312) : Ieee.double.order (Ieee.double.word s a) (Ieee.double.word t b) = some (compare (wV s a) (wV t b)) := by
  unfold Ieee.Format.order
  rw [z4x s a ha, z4x t b hb]
  unfold Ieee.Datum.order
  dsimp only
  have g1 := rP_ge a
  have g2 := rP_ge b
  obtain ⟨j, hj⟩ : ∃ j : Nat, (j : Int) = min (rP a) (rP b) + 1074 := ⟨(min (rP a) (rP b) + 1074).toNat, by omega⟩
  have e1 := z8y s (rM a) (rP a - min (rP a) (rP b)).toNat j
  have e2 := z8y t (rM b) (rP b - min (rP a) (rP b)).toNat j
  rw [show (rP a - min (rP a) (rP b)).toNat + j = (rP a - -1074).toNat by omega, signed_rung s a _ rfl] at e1
  rw [show (rP b - min (rP a) (rP b)).toNat + j = (rP b - -1074).toNat by omega, signed_rung t b _ rfl] at e2
  unfold wV
  rw [e1, e2, compare_scale _ _ _ (Nat.pow_pos (by decide))]
end Go.Proofs.YtjpiplplohapnaaGreatDoor.Nr
namespace Go.Proofs.YtjpiplplohapnaaGreatDoor.Nr
open Us
set_option maxRecDepth 100000 in
theorem z6r (k : Nat) (hk : k < 23) : V (z1z.getD k 0) = 10 ^ k * 2 ^ ex ∧ z1z.getD k 0 < 9218868437227405312 ∧ 0 < z1z.getD k 0 := by
  have key : ∀ k : Fin 23, V (z1z.getD k.val 0) = 10 ^ k.val * 2 ^ ex ∧ z1z.getD k.val 0 < 9218868437227405312 ∧ 0 < z1z.getD k.val 0 := by decide +kernel
  exact key ⟨k, hk⟩
theorem V_big (K : Nat) (hK : K = 1152) : V 5192650370358181888 = 2 ^ 130 * 2 ^ ex := by
  have e1 : 52 + K = 130 + ex := by rw [z5h]; omega
  have e2 : K * 4503599627370496 + 4503599627370496 = 5192650370358181888 := by omega
  clear hK
  have h := z6g K 4503599627370496 (Or.inl ⟨by decide, by decide⟩)
  rw [e2] at h
  rw [h, show (4503599627370496 : Nat) = 2 ^ 52 by decide, ← Nat.pow_add, ← Nat.pow_add, e1]
theorem fin_of {N D r : Nat} (hD : 0 < D) (h : Near N D r) (hN : N ≤ 2 ^ 130 * 2 ^ ex * D) : r < 9218868437227405312 := by
  have hb : Near (V 5192650370358181888) 1 5192650370358181888 := z3p (by decide) (Nat.mul_one _).symm
  have := z4n hD (by decide) (by rw [Nat.mul_one, V_big 1152 rfl]; exact hN) h hb
  omega
theorem prod_near {a b x y r : Nat} (ha : V a = x * 2 ^ ex) (hb : V b = y * 2 ^ ex) (h : Near (V a * V b) (2 ^ ex) r) : Near (x * y * 2 ^ ex) 1 r := by
  refine z4l (Nat.pow_pos (by decide)) (by decide) ?_ h
  rw [ha, hb]
  generalize 2 ^ ex = z
  grind
theorem quot_near {a b x y r : Nat} (hy : 0 < y) (ha : V a = x * 2 ^ ex) (hb : V b = y * 2 ^ ex) (h : Near (V a * 2 ^ ex) (V b) r) : Near (x * 2 ^ ex) y r := by
  have hp : 0 < 2 ^ ex := Nat.pow_pos (by decide)
  refine z4l (by rw [hb]; exact Nat.mul_pos hy hp) hy ?_ h
  rw [ha, hb]
  generalize 2 ^ ex = z
  grind
theorem z6w (d k : Nat) : dN d k = d * 10 ^ k * 2 ^ ex := by unfold dN; rw [Int.toNat_natCast]
theorem z7b (k : Nat) : dD k = 1 := by unfold dD; rw [show (-(k : Int)).toNat = 0 by omega, Nat.pow_zero]
theorem dN_neg (d k : Nat) : dN d (-(k : Int)) = d * 2 ^ ex := by unfold dN; rw [show (-(k : Int)).toNat = 0 by omega, Nat.pow_zero, Nat.mul_one]
theorem dD_neg (k : Nat) : dD (-(k : Int)) = 10 ^ k := by unfold dD; rw [Int.neg_neg, Int.toNat_natCast]
theorem p10_22 {k : Nat} (h : k < 23) : 10 ^ k ≤ 10 ^ 22 := Nat.pow_le_pow_right (by decide) (by omega)
theorem z7t {d k a r : Nat} (hd : d < 4503599627370496) (hk : k < 23) (ha : V a = d * 2 ^ ex) (h : Near (V a * V (z1z.getD k 0)) (2 ^ ex) r) : Near (dN d k) (dD k) r ∧ r < 9218868437227405312 := by
  have h1 := prod_near ha (z6r k hk).1 h
  rw [z6w, z7b]
  refine ⟨h1, fin_of (by decide) h1 ?_⟩
  rw [Nat.mul_one]
  refine Nat.mul_le_mul_right _ ?_
  have h2 := Nat.mul_le_mul (Nat.le_of_lt hd) (p10_22 hk)
  omega
theorem exact_div {d k a r : Nat} (hd : d < 4503599627370496) (hk : k < 23) (ha : V a = d * 2 ^ ex) (h : Near (V a * 2 ^ ex) (V (z1z.getD k 0)) r) : Near (dN d (-(k : Int))) (dD (-(k : Int))) r ∧ r < 9218868437227405312 := by
  have h1 := quot_near (Nat.pow_pos (by decide)) ha (z6r k hk).1 h
  rw [dN_neg, dD_neg]
  refine ⟨h1, fin_of (Nat.pow_pos (by decide)) h1 ?_⟩
  have hp : 0 < 10 ^ k := Nat.pow_pos (by decide)
  have h2 : d * 2 ^ ex ≤ 2 ^ 130 * 2 ^ ex := Nat.mul_le_mul_right _ (by omega)
  have h3 : 2 ^ 130 * 2 ^ ex * 1 ≤ 2 ^ 130 * 2 ^ ex * 10 ^ k := Nat.mul_le_mul_left _ hp
  rw [Nat.mul_one] at h3
  exact Nat.le_trans h2 h3
theorem exact_id {d a : Nat} (hd : d < 4503599627370496) (ha : V a = d * 2 ^ ex) : Near (dN d 0) (dD 0) a ∧ a < 9218868437227405312 := by
  have h1 : Near (dN d (0 : Nat)) (dD (0 : Nat)) a := by
    rw [z6w, z7b]
    exact z3p (by decide) (by rw [ha, Nat.pow_zero, Nat.mul_one, Nat.mul_one])
  refine ⟨h1, fin_of (z3l _) h1 ?_⟩
  rw [z6w, z7b, Nat.pow_zero, Nat.mul_one, Nat.mul_one]
  exact Nat.mul_le_mul_right _ (by omega)
theorem exact_two {d j a r : Nat} (hd : d < 4503599627370496) (hj : j < 23) (ha : V a = d * 2 ^ ex) (h : Near (V a * V (z1z.getD j 0)) (2 ^ ex) r) (hle : V r ≤ V 4831355200913801216) :
    V r = d * 10 ^ j * 2 ^ ex ∧ d * 10 ^ j ≤ 1000000000000000 := by
  have h1 := prod_near ha (z6r j hj).1 h
  have hC : V 4831355200913801216 = 10 ^ 15 * 2 ^ ex := (z6r 15 (by decide)).1
  have hle2 : d * 10 ^ j ≤ 1000000000000000 := by
    rcases Nat.lt_or_ge 1000000000000000 (d * 10 ^ j) with g | g
    · exfalso
      obtain ⟨r', g1, -, -, -⟩ := rung_int 1000000000000001 (by decide)
      have g2 : Near (1000000000000001 * 2 ^ ex) 1 r' := z3p (by decide) (by rw [g1, Nat.mul_one])
      have g3 := z4n (by decide) (by decide) (by rw [Nat.mul_one, Nat.mul_one]; exact Nat.mul_le_mul_right _ g) g2 h1
      have g4 := V_mono g3
      rw [g1] at g4
      rw [hC] at hle
      have g5 := Nat.le_of_mul_le_mul_right (Nat.le_trans g4 hle) (Nat.pow_pos (by decide))
      omega
    exact g
  obtain ⟨r', g1, -, -, -⟩ := rung_int (d * 10 ^ j) (by omega)
  have g2 : Near (d * 10 ^ j * 2 ^ ex) 1 r' := z3p (by decide) (by rw [g1, Nat.mul_one])
  have g3 := z5a (by decide) (by decide) rfl h1 g2
  rw [g3]
  exact ⟨g1, hle2⟩
theorem exact_mul2 {d j a r : Nat} (hd : d * 10 ^ j ≤ 1000000000000000) (ha : V a = d * 10 ^ j * 2 ^ ex) (h : Near (V a * V (z1z.getD 22 0)) (2 ^ ex) r) : Near (dN d ((j + 22 : Nat) : Int)) (dD ((j + 22 : Nat) : Int)) r ∧ r < 9218868437227405312 := by
  have h1 := prod_near ha (z6r 22 (by decide)).1 h
  rw [z6w, z7b, Nat.pow_add, ← Nat.mul_assoc]
  refine ⟨h1, fin_of (by decide) h1 ?_⟩
  rw [Nat.mul_one]
  refine Nat.mul_le_mul_right _ ?_
  have h2 := Nat.mul_le_mul_right (10 ^ 22) hd
  omega
theorem ten_two (a b : Nat) : 2 ^ (93 * a + 3 * b) ≤ 10 ^ (28 * a + b) := by
  rw [Nat.pow_add, Nat.pow_add, Nat.pow_mul, Nat.pow_mul, Nat.pow_mul]
  refine Nat.mul_le_mul (Nat.pow_le_pow_left (by decide) _) (Nat.pow_le_pow_left (by decide) _)
theorem V_inf2 (J K : Nat) (hJ : J = 2046) (hK : K = 1024) : V 9218868437227405312 = 2 ^ K * 2 ^ ex := by
  have e1 : 52 + J = K + ex := by rw [z5h]; omega
  have e2 : J * 4503599627370496 + 4503599627370496 = 9218868437227405312 := by omega
  clear hJ hK
  have h := z6g J 4503599627370496 (Or.inl ⟨by decide, by decide⟩)
  rw [e2] at h
  rw [h, show (4503599627370496 : Nat) = 2 ^ 52 by decide, ← Nat.pow_add, ← Nat.pow_add, e1]
theorem inf_of {N D r : Nat} (hD : 0 < D) (h : Near N D r) (hN : V 9218868437227405312 * D ≤ N) : 9218868437227405312 ≤ r := by
  have hb : Near (V 9218868437227405312) 1 9218868437227405312 := z3p (by decide) (Nat.mul_one _).symm
  exact z4n (by decide) hD (by rw [Nat.mul_one]; exact hN) hb h
theorem too_great {d : Nat} {p : Int} (h0 : d ≠ 0) (hp : 310 < p) : ∃ r, Near (dN d p) (dD p) r ∧ 9218868437227405312 ≤ r := by
  obtain ⟨k, rfl⟩ : ∃ k : Nat, p = k := ⟨p.toNat, by omega⟩
  rw [z6w, z7b]
  have h := rung_near (d * 10 ^ k) 0
  have e1 : uN (d * 10 ^ k) 0 = d * 10 ^ k * 2 ^ ex := by unfold uN; rw [show ((0 : Int) + 1074).toNat = ex by rw [z5h]; rfl]
  have e2 : uD 0 = 1 := by unfold uD; rw [show (-1074 - (0 : Int)).toNat = 0 by decide, Nat.pow_zero]
  rw [e1, e2] at h
  refine ⟨_, h, inf_of (by decide) h ?_⟩
  obtain ⟨K, hK⟩ : ∃ K, K = 1024 := ⟨_, rfl⟩
  obtain ⟨J, hJ⟩ : ∃ J, J = 2046 := ⟨_, rfl⟩
  obtain ⟨a, ha⟩ : ∃ a, a = 11 := ⟨_, rfl⟩
  have k1 : 28 * a + 3 ≤ k := by omega
  have k2 : K ≤ 93 * a + 3 * 3 := by omega
  have k3 : 1 ≤ d := by omega
  rw [Nat.mul_one, V_inf2 J K hJ hK]
  clear hK hJ ha
  refine Nat.mul_le_mul_right _ ?_
  have t := ten_two a 3
  have t2 : 10 ^ (28 * a + 3) ≤ 10 ^ k := Nat.pow_le_pow_right (by decide) k1
  have t3 : 2 ^ K ≤ 2 ^ (93 * a + 3 * 3) := Nat.pow_le_pow_right (by decide) k2
  have t4 : 1 * 10 ^ k ≤ d * 10 ^ k := Nat.mul_le_mul_right _ k3
  rw [Nat.one_mul] at t4
  exact Nat.le_trans t3 (Nat.le_trans t (Nat.le_trans t2 t4))
theorem too_small {d : Nat} {p : Int} (hd : d < 18446744073709551616) (hp : p < -345) : Near (dN d p) (dD p) 0 := by
  obtain ⟨k, rfl⟩ : ∃ k : Nat, p = -(k : Int) := ⟨(-p).toNat, by omega⟩
  rw [dN_neg, dD_neg]
  have key : 2 * (d * 2 ^ ex) < 10 ^ k := by
    obtain ⟨a, ha⟩ : ∃ a, a = 12 := ⟨_, rfl⟩
    have k1 : 28 * a + 10 ≤ k := by omega
    have k2 : ex + 65 < 93 * a + 3 * 10 := by rw [z5h]; omega
    clear ha
    have t := ten_two a 10
    have t2 : 10 ^ (28 * a + 10) ≤ 10 ^ k := Nat.pow_le_pow_right (by decide) k1
    have t3 : 2 ^ (ex + 65) < 2 ^ (93 * a + 3 * 10) := Nat.pow_lt_pow_right (by decide) k2
    have t4 : 2 * (d * 2 ^ ex) ≤ 2 ^ (ex + 65) := by
      have e : 2 ^ (ex + 65) = 2 ^ ex * (2 * 18446744073709551616) := by
        rw [Nat.pow_add, show (2 : Nat) ^ 65 = 2 * 18446744073709551616 by decide]
      have := Nat.mul_le_mul_right (2 ^ ex) (Nat.le_of_lt hd)
      rw [e]
      generalize 2 ^ ex = z at *
      omega
    exact Nat.lt_of_le_of_lt t4 (Nat.lt_of_lt_of_le t3 (Nat.le_trans t t2))
  have v0 : V 0 = 0 := rfl
  have v1 : V 1 = 1 := rfl
  refine ⟨fun q hq => absurd hq (by omega), ?_⟩
  rw [v0, v1, Nat.zero_add, Nat.one_mul]
  exact ⟨Nat.le_of_lt key, fun _ => rfl⟩
theorem near_zero (D : Nat) (hD : 0 < D) : Near 0 D 0 := z3p hD (by rw [show V 0 = 0 from rfl, Nat.zero_mul])
theorem dN_mono {a b : Nat} (h : a ≤ b) (p : Int) : dN a p ≤ dN b p := by
  unfold dN
  exact Nat.mul_le_mul_right _ (Nat.mul_le_mul_right _ h)
end Go.Proofs.YtjpiplplohapnaaGreatDoor.Nr
namespace Go.Proofs.YtjpiplplohapnaaGreatDoor.Big
open Go.RowKit Go.Proofs.YtjpiplplohapnaaGreatDoorW.PrintWords Go.Proofs.YtjpiplplohapnaaGreatDoorW.PrintLast Go.Proofs.YtjpiplplohapnaaGreatDoorW.PrintMore
open Go.Proofs.YtjpiplplohapnaaGreatDoor.PText Nr Us Dc
theorem z7f {n i : Nat} (h : n ≤ 10 ^ i) : ln n ≤ i + 1 := by
  refine ln_le (Nat.lt_of_le_of_lt h ?_)
  have h1 : 10 ^ i ≤ B ^ i := Nat.pow_le_pow_left (by decide) i
  have h2 : B ^ i < B ^ (i + 1) := Nat.pow_lt_pow_right (by decide) (Nat.lt_succ_self i)
  exact Nat.lt_of_le_of_lt h1 h2
theorem tens_l0 (c : Nat) (hc : c ≤ 1000) : ∀ (j i : Nat), i + j = c → Ev (fun k => z1e.l0 k (c : Int) (dg (10 ^ i)) (i : Int)) (dg (10 ^ c))
  | 0, i, h => by
    have : i = c := by omega
    subst this
    refine Ev.step (f := fun _ => some (dg (10 ^ i))) (fun k => ?_) (Ev.now _)
    rw [z1e.l0, if_neg (by omega)]
  | j + 1, i, h => by
    have ih := tens_l0 c hc j (i + 1) (by omega)
    have h10 : dg 10 = [10] := z8u (by decide) (by decide)
    have htop : 10000 ≤ top := by decide
    have hm := mul_ev (10 ^ i) 10 (by have := z7f (Nat.le_refl (10 ^ i)); have := z9a (n := 10) (by decide); omega)
    rw [h10, ← Nat.pow_succ] at hm
    refine Ev.step (f := fun k => (z0h.f k (dg (10 ^ i)) [10]).bind fun t => z1e.l0 k (c : Int) t ((i + 1 : Nat) : Int)) (fun k => ?_) (Ev.bind hm ih)
    rw [z1e.l0, if_pos (by omega), w64 (by omega) (by omega)]
    rfl
theorem tens_ev (c : Nat) (hc : c ≤ 1000) : Ev (fun k => z1e.f k (c : Int)) (dg (10 ^ c)) := by
  have h := tens_l0 c hc c 0 (by omega)
  have h1 : dg (10 ^ 0) = [1] := z8u (by decide) (by decide)
  rw [h1] at h
  exact h
def mdR (ng : Bool) (r : Nat) : Int × Int := if 9218868437227405312 ≤ r then (0, 20) else (((Ieee.double.word ng r : Nat) : Int), 0)
theorem xor_md (u : Nat) (h : u < 9223372036854775808) : u ^^^ 9223372036854775808 = u + 9223372036854775808 := by
  have h1 : (9223372036854775808 : Nat) = 2 ^ 63 := by decide
  rw [h1] at h ⊢
  have h2 := Nat.two_pow_add_eq_or_of_lt h 1
  rw [Nat.mul_one] at h2
  rw [Nat.add_comm, h2]
  apply Nat.eq_of_testBit_eq
  intro i
  rw [Nat.testBit_xor, Nat.testBit_or, Nat.testBit_two_pow]
  by_cases hi : 63 = i
  · subst hi
    rw [Nat.testBit_lt_two_pow h]; simp
  simp [hi]
theorem flip_md (u : Nat) (h : u < 9223372036854775808) : z3d.f (u : Int) = some ((u + 9223372036854775808 : Nat) : Int) := by
  unfold z3d.f
  have := Go.u64_xor_nat u 9223372036854775808 (by omega) (by omega)
  rw [show ((9223372036854775808 : Nat) : Int) = 9223372036854775808 from rfl] at this
  rw [this, xor_md u h]
theorem made_j0 (ng : Bool) (r : Nat) : Ev (fun k => z0v.j0 k ng ((min r 9218868437227405312 : Nat) : Int)) (mdR ng r) := by
  unfold mdR
  by_cases h : 9218868437227405312 ≤ r
  · rw [if_pos h, Nat.min_eq_right h]
    refine Ev.step (f := fun _ => some ((0 : Int), (20 : Int))) (fun k => ?_) (Ev.now _)
    rw [z0v.j0, if_pos (show ((9218868437227405312 : Nat) : Int) = 9218868437227405312 from rfl)]
  rw [if_neg h, Nat.min_eq_left (by omega)]
  refine Ev.step (f := fun _ => some (((Ieee.double.word ng r : Nat) : Int), (0 : Int))) (fun k => ?_) (Ev.now _)
  rw [z0v.j0, if_neg (by omega)]
  cases ng
  · rw [if_neg (by decide)]; rfl
  rw [if_pos rfl, flip_md r (by omega), Option.bind_some, Nat.add_comm]
  rfl
theorem made_ev (W K : Nat) (hW : W ≤ 10 ^ K) (hK : K ≤ 400) (p : Int) (ng : Bool) : ∃ r, Near (dN W p) (dD p) r ∧ Ev (fun k => z0v.f k (dg W) p ng) (mdR ng r) := by
  have htop : 10000 ≤ top := by decide
  by_cases h0 : W = 0
  · subst h0
    refine ⟨0, ?_, ?_⟩
    · have e : dN 0 p = 0 := by unfold dN; rw [Nat.zero_mul, Nat.zero_mul]
      rw [e]; exact near_zero _ (z3l p)
    refine Ev.congr (f := fun k => z0v.j0 k ng ((min 0 9218868437227405312 : Nat) : Int)) (fun k => ?_) (made_j0 ng 0)
    unfold z0v.f
    rw [dg_zero, if_neg (by decide)]
    rfl
  have hl : 0 < ln W := by rw [z5m h0]; omega
  have hlW := z7f hW
  have hlen : ((dg W).length : Int) > 0 := by rw [z1c]; omega
  by_cases h1 : p > 400
  · obtain ⟨r, hr1, hr2⟩ := too_great (d := W) (p := p) h0 (by omega)
    refine ⟨r, hr1, ?_⟩
    have hj := made_j0 ng r
    rw [Nat.min_eq_right hr2] at hj
    refine Ev.congr (fun k => ?_) hj
    unfold z0v.f
    rw [if_pos hlen, if_pos h1]
    rfl
  by_cases h2 : 0 ≤ p
  · obtain ⟨c, rfl⟩ : ∃ c : Nat, p = c := ⟨p.toNat, by omega⟩
    have hT := tens_ev c (by omega)
    have hlT := z7f (Nat.le_refl (10 ^ c))
    have hm := mul_ev W (10 ^ c) (by omega)
    obtain ⟨D, hD⟩ : ∃ D, D = W * 10 ^ c := ⟨_, rfl⟩
    have hD0 : D ≠ 0 := by rw [hD]; exact Nat.mul_ne_zero h0 (Nat.ne_of_gt (Nat.pow_pos (by decide)))
    have hDl : ln D ≤ K + c + 1 := by
      refine z7f ?_
      rw [hD, Nat.pow_add]
      exact Nat.mul_le_mul_right _ hW
    rw [← hD] at hm
    have hN := near_ev false D 0 (by decide) (by decide) (by omega)
    obtain ⟨r, hr, hnb⟩ := nbS_near D hD0 0 false (dN W c) (dD c) ex 0 (z3l _) (by rw [z5h]; rfl)
      (by rw [z6w, z7b, hD, Nat.pow_zero]; exact Nat.le_refl _) (by rw [z6w, z7b, ← hD, Nat.pow_zero, Nat.mul_one, Nat.mul_one]; exact Nat.mul_lt_mul_of_pos_right (Nat.lt_succ_self D) (Nat.pow_pos (by decide)))
      (fun _ => by rw [z6w, z7b, hD, Nat.pow_zero]) (fun h => by cases h) (fun h => by cases h)
    refine ⟨r, hr, ?_⟩
    have hnb2 : nb false D 0 false = min r 9218868437227405312 := by
      unfold nb
      rw [if_neg hD0, if_neg (by decide), Nat.zero_add, hnb]
    rw [hnb2] at hN
    have hj := made_j0 ng r
    obtain ⟨K1, k1⟩ := hT
    obtain ⟨K2, k2⟩ := hm
    obtain ⟨K3, k3⟩ := hN
    obtain ⟨K4, k4⟩ := hj
    refine ⟨K1 + K2 + K3 + K4, fun k hk => ?_⟩
    dsimp only at k1 k2 k3 k4
    show z0v.f k (dg W) (c : Int) ng = _
    unfold z0v.f
    rw [if_pos hlen, if_neg h1, if_pos (show (c : Int) ≥ 0 from h2), k1 k (by omega), Option.bind_some, k2 k (by omega), Option.bind_some, k3 k (by omega), Option.bind_some, k4 k (by omega)]
  obtain ⟨c, hc⟩ : ∃ c : Nat, p = -(c : Int) := ⟨(-p).toNat, by omega⟩
  subst hc
  by_cases h3 : (-(c : Int)) > -900
  · have hT := tens_ev c (by omega)
    have hlT := z7f (Nat.le_refl (10 ^ c))
    obtain ⟨T, hTd⟩ : ∃ T, T = 10 ^ c := ⟨_, rfl⟩
    have hT0 : 0 < T := by rw [hTd]; exact Nat.pow_pos (by decide)
    rw [← hTd] at hT hlT
    have hb1 := len_ev W (by omega)
    have hb2 := len_ev T (by omega)
    have hbW := z8t W
    have hbT := z8t T
    obtain ⟨j, hj⟩ : ∃ j : Nat, (j : Int) = mx 0 (wrap64 (wrap64 (70 - (bl W : Int)) + (bl T : Int))) := by
      rw [w64 (x := 70 - (bl W : Int)) (by omega) (by omega), w64 (by omega) (by omega)]
      unfold mx
      split
      · exact ⟨(70 - (bl W : Int) + (bl T : Int)).toNat, by omega⟩
      exact ⟨0, rfl⟩
    have hjb : 70 + bl T ≤ bl W + j ∧ j ≤ 100000 := by
      rw [w64 (x := 70 - (bl W : Int)) (by omega) (by omega), w64 (by omega) (by omega)] at hj
      unfold mx at hj
      split at hj <;> omega
    have hup := up_ev W j (by omega) (by omega)
    obtain ⟨Y, hY⟩ : ∃ Y, Y = W * 2 ^ j := ⟨_, rfl⟩
    rw [← hY] at hup
    have hYl : ln Y ≤ 100000 := by
      have h1 : W < 2 ^ bl W := z4b W
      have h2 : Y < 2 ^ (bl W + j) := by rw [hY, Nat.pow_add]; exact Nat.mul_lt_mul_of_pos_right h1 (Nat.pow_pos (by decide))
      have := ln_of_bits' 4000 h2 (by omega)
      omega
    have hdv := divd_ev Y T hT0 (by omega) (by omega)
    have hdm := Nat.div_add_mod Y T
    have hml := Nat.mod_lt Y hT0
    obtain ⟨q, hq⟩ : ∃ q, q = Y / T := ⟨_, rfl⟩
    obtain ⟨rs, hrs⟩ : ∃ rs, rs = Y % T := ⟨_, rfl⟩
    rw [← hq, ← hrs] at hdv hdm
    rw [← hrs] at hml
    have hq69 : 2 ^ 69 ≤ q := by
      have h1 := z6l h0
      have h2 : T < 2 ^ bl T := z4b T
      have h3 : 2 ^ (bl W - 1 + j) ≤ Y := by rw [hY, Nat.pow_add]; exact Nat.mul_le_mul_right _ h1
      have hbw : 0 < bl W := by rw [bl_half h0]; omega
      have h4 : 2 ^ (69 + bl T) ≤ 2 ^ (bl W - 1 + j) := Nat.pow_le_pow_right (by decide) (by omega)
      rw [Nat.pow_add] at h4
      have h5 : 2 ^ 69 * T ≤ Y := Nat.le_trans (Nat.mul_le_mul_left _ (Nat.le_of_lt h2)) (Nat.le_trans h4 h3)
      rw [hq]
      exact (Nat.le_div_iff_mul_le hT0).2 h5
    have hq0 : q ≠ 0 := by intro h; rw [h] at hq69; exact absurd hq69 (by decide)
    have hqb : 69 < bl q := lt_bl hq69
    have hlq : ln q ≤ 10000 := by
      have : q ≤ Y := by rw [hq]; exact Nat.div_le_self _ _
      have h1 := ln_mono this
      have h2 : W < 2 ^ bl W := z4b W
      have h3 : Y < 2 ^ (bl W + j) := by rw [hY, Nat.pow_add]; exact Nat.mul_lt_mul_of_pos_right h2 (Nat.pow_pos (by decide))
      have := ln_of_bits' 9000 h3 (by omega)
      omega
    have hmo : decide (0 < (dg rs).length) = decide (rs ≠ 0) := by
      rw [z1c]
      by_cases h : rs = 0
      · subst h; rw [z3z]; rfl
      rw [decide_eq_true h, decide_eq_true (by rw [z5m h]; omega)]
    have hnm := nearMore_ev false q (-(j : Int)) (decide (rs ≠ 0)) (by omega) (by omega) hlq
    have e1 : dN W (-(c : Int)) = W * 2 ^ ex := dN_neg W c
    have e2 : dD (-(c : Int)) = T := by rw [dD_neg, hTd]
    have hex : 0 < 2 ^ ex := Nat.pow_pos (by decide)
    have f1 : dN W (-(c : Int)) * 2 ^ j = Y * 2 ^ ex := by rw [e1, hY]; grind
    have f2 : q * 2 ^ ex * T = (T * q) * 2 ^ ex := by grind
    have f3 : (q + 1) * 2 ^ ex * T = (T * q + T) * 2 ^ ex := by grind
    obtain ⟨r, hr, hnb⟩ := nbS_near q hq0 (-(j : Int)) (decide (rs ≠ 0)) (dN W (-(c : Int))) (dD (-(c : Int))) ex j (z3l _) (by rw [z5h]; omega)
      (by rw [e2, f1, f2]; exact Nat.mul_le_mul_right _ (by omega))
      (by rw [e2, f1, f3]; exact Nat.mul_lt_mul_of_pos_right (by omega) hex)
      (fun h => by
        have h' := of_decide_eq_false h
        have hYq : Y = T * q := by omega
        rw [e2, f1, f2, hYq])
      (fun h => by
        have h' := of_decide_eq_true h
        rw [e2, f1, f2]
        intro hh
        have := Nat.eq_of_mul_eq_mul_right hex hh
        omega)
      (fun _ => by unfold lsbI; omega)
    refine ⟨r, hr, ?_⟩
    have hnb2 : nb false q (-(j : Int)) (decide (rs ≠ 0)) = min r 9218868437227405312 := by
      unfold nb
      rw [if_neg hq0, if_neg (by decide), Nat.zero_add, hnb]
    rw [hnb2] at hnm
    have hj0 := made_j0 ng r
    obtain ⟨K1, k1⟩ := hT
    obtain ⟨K2, k2⟩ := hb1
    obtain ⟨K3, k3⟩ := hb2
    obtain ⟨K4, k4⟩ := hup
    obtain ⟨K5, k5⟩ := hdv
    obtain ⟨K6, k6⟩ := hnm
    obtain ⟨K7, k7⟩ := hj0
    refine ⟨K1 + K2 + K3 + K4 + K5 + K6 + K7, fun k hk => ?_⟩
    dsimp only at k1 k2 k3 k4 k5 k6 k7
    have hz : z1m.f false (dg W) 0 = some false := by
      unfold z1m.f
      rw [z1c]
      have : (((ln W : Nat) : Int) == 0) = false := by simp; omega
      rw [this]
    have w1 : wrap64 (-(-(c : Int))) = (c : Int) := by rw [w64 (by omega) (by omega)]; omega
    have w2 : wrap64 (wrap64 (0 - (j : Int)) - 0) = -(j : Int) := by rw [w64 (x := 0 - (j : Int)) (by omega) (by omega), w64 (by omega) (by omega)]; omega
    have hover : z0w.f k false (dg W) 0 false (dg T) 0 = some ((min r 9218868437227405312 : Nat) : Int) := by
      unfold z0w.f
      rw [hz, Option.bind_some, if_neg (by decide), k2 k (by omega), Option.bind_some, k3 k (by omega), Option.bind_some, ← hj, k4 k (by omega), Option.bind_some, k5 k (by omega), Option.bind_some]
      dsimp only
      rw [hmo, w2, k6 k (by omega)]
      rfl
    show z0v.f k (dg W) (-(c : Int)) ng = _
    unfold z0v.f
    rw [if_pos hlen, if_neg h1, if_neg (show ¬ (-(c : Int)) ≥ 0 from h2), if_pos h3, w1, k1 k (by omega), Option.bind_some, hover, Option.bind_some, k7 k (by omega)]
  refine ⟨0, ?_, ?_⟩
  · have e1 : dN W (-(c : Int)) = W * 2 ^ ex := dN_neg W c
    rw [e1, dD_neg]
    refine ⟨fun q h => by omega, ?_⟩
    obtain ⟨L, hL⟩ : ∃ L, L = 359 := ⟨_, rfl⟩
    have a1 : 2 ^ (ex + 1) ≤ 2 ^ (3 * L) := Nat.pow_le_pow_right (by decide) (by rw [z5h, hL]; decide)
    have a2 : 2 ^ (3 * L) ≤ 10 ^ L := by rw [Nat.pow_mul]; exact Nat.pow_le_pow_left (by decide) L
    have a3 : W * 10 ^ L ≤ 10 ^ (K + L) := by rw [Nat.pow_add]; exact Nat.mul_le_mul_right _ hW
    have a4 : 10 ^ (K + L) < 10 ^ c := Nat.pow_lt_pow_right (by decide) (by omega)
    have a5 : 2 * (W * 2 ^ ex) ≤ W * 10 ^ L := by
      have : 2 * (W * 2 ^ ex) = W * 2 ^ (ex + 1) := by rw [Nat.pow_succ]; grind
      rw [this]
      exact Nat.mul_le_mul_left _ (Nat.le_trans a1 a2)
    have hV : V 0 + V (0 + 1) = 1 := rfl
    rw [hV, Nat.one_mul]
    exact ⟨by omega, fun _ => rfl⟩
  refine Ev.congr (f := fun k => z0v.j0 k ng ((min 0 9218868437227405312 : Nat) : Int)) (fun k => ?_) (made_j0 ng 0)
  unfold z0v.f
  rw [if_pos hlen, if_neg h1, if_neg (show ¬ (-(c : Int)) ≥ 0 from h2), if_neg h3]
  rfl
end Go.Proofs.YtjpiplplohapnaaGreatDoor.Big
namespace Go.Proofs.YtjpiplplohapnaaGreatDoor.Rf
structure St where
  us : Bool
  dot : Bool
  sd : Bool
  nd : Nat
  nm : Nat
  dp : Int
  m : Nat
  tr : Bool
def st0 : St := ⟨false, false, false, 0, 0, 0, 0, false⟩
def bs (hx : Bool) : Nat := if hx then 16 else 10
def mxd (hx : Bool) : Nat := if hx then 16 else 19
def lw (c : Nat) : Int := Go.bits .or .u8 (c : Int) 32
def stp (hx : Bool) (c : Nat) (t : St) : Option St :=
  if c = 95 then some { t with us := true }
  else if c = 46 then (if t.dot then none else some { t with dot := true, dp := t.nd })
  else if 48 ≤ c ∧ c ≤ 57 then
    if c = 48 ∧ t.nd = 0 then some { t with sd := true, dp := t.dp - 1 }
    else if t.nm < mxd hx then some { t with sd := true, nd := t.nd + 1, nm := t.nm + 1, m := t.m * bs hx + (c - 48) }
    else some { t with sd := true, nd := t.nd + 1, tr := t.tr || decide (c ≠ 48) }
  else if hx = true ∧ 97 ≤ lw c ∧ lw c ≤ 102 then
    if t.nm < mxd hx then some { t with sd := true, nd := t.nd + 1, nm := t.nm + 1, m := t.m * bs hx + (lw c - 87).toNat }
    else some { t with sd := true, nd := t.nd + 1, tr := true }
  else none
def scan (hx : Bool) : List UInt8 → St → St × List UInt8
  | [], t => (t, [])
  | c :: l, t => match stp hx c.toNat t with
    | some t' => scan hx l t'
    | none => (t, c :: l)
structure Ok (hx : Bool) (t : St) (k : Nat) : Prop where
  nd : t.nd ≤ k
  nm : t.nm ≤ mxd hx
  m : t.m < bs hx ^ t.nm
  dp1 : -(k : Int) ≤ t.dp
  dp2 : t.dp ≤ k
theorem ok0 (hx : Bool) (k : Nat) : Ok hx st0 k := ⟨Nat.zero_le _, Nat.zero_le _, by show 0 < _; exact Nat.pow_pos (by cases hx <;> decide), by show -(k : Int) ≤ 0; omega, by show (0 : Int) ≤ k; omega⟩
theorem pow_max (hx : Bool) : bs hx ^ mxd hx ≤ 18446744073709551616 := by cases hx <;> decide
theorem Ok.room {hx : Bool} {t : St} {k d : Nat} (h : Ok hx t k) (hn : t.nm < mxd hx) (hd : d < bs hx) : t.m * bs hx + d < bs hx ^ (t.nm + 1) ∧ bs hx ^ (t.nm + 1) ≤ 18446744073709551616 := by
  have hb : 0 < bs hx := by cases hx <;> decide
  constructor
  · have : (t.m + 1) * bs hx ≤ bs hx ^ t.nm * bs hx := Nat.mul_le_mul_right _ h.m
    rw [← Nat.pow_succ, Nat.add_mul, Nat.one_mul, Nat.succ_eq_add_one] at this
    omega
  exact Nat.le_trans (Nat.pow_le_pow_right hb hn) (pow_max hx)
theorem drop_at (l : List UInt8) (k : Nat) (h : k < l.length) : l.drop k = l[k] :: l.drop (k + 1) := List.drop_eq_getElem_cons h
theorem scan_some {hx : Bool} {l : List UInt8} {k : Nat} {t t' : St} (h : k < l.length) (hs : stp hx l[k].toNat t = some t') : scan hx (l.drop k) t = scan hx (l.drop (k + 1)) t' := by
  rw [drop_at l k h, scan, hs]
theorem scan_none {hx : Bool} {l : List UInt8} {k : Nat} {t : St} (h : k < l.length) (hs : stp hx l[k].toNat t = none) : scan hx (l.drop k) t = (t, l.drop k) := by
  rw [drop_at l k h, scan, hs]
theorem scan_end {hx : Bool} {l : List UInt8} {k : Nat} {t : St} (h : l.length ≤ k) : scan hx (l.drop k) t = (t, l.drop k) := by
  rw [List.drop_of_length_le h, scan]
def z3n : List UInt8 → Nat → Bool → Nat × Bool × List UInt8
  | [], e, us => (e, us, [])
  | c :: l, e, us => if c.toNat = 95 then z3n l e true else if 48 ≤ c.toNat ∧ c.toNat ≤ 57 then z3n l (if e < 10000 then e * 10 + (c.toNat - 48) else e) us else (e, us, c :: l)
def z2e : List UInt8 → Int × List UInt8
  | [] => (1, [])
  | c :: l => if c.toNat = 43 then (1, l) else if c.toNat = 45 then (-1, l) else (1, c :: l)
def z6a : List UInt8 → Bool
  | [] => false
  | d :: _ => decide (48 ≤ d.toNat) && decide (d.toNat ≤ 57)
def eat (us : Bool) (r : List UInt8) : Option (Int × Bool × List UInt8) :=
  if z6a (z2e r).2 then some ((z2e r).1 * ((z3n (z2e r).2 0 us).1 : Nat), (z3n (z2e r).2 0 us).2.1, (z3n (z2e r).2 0 us).2.2) else none
def z2t (hx us : Bool) : List UInt8 → Option (Int × Bool × List UInt8)
  | [] => if hx then none else some (0, us, [])
  | c :: r => if lw c.toNat = (if hx then 112 else 101) then eat us r else if hx then none else some (0, us, c :: r)
structure Out where
  m : Nat
  e : Int
  tr : Bool
  us : Bool
  rest : List UInt8
def dpv (hx : Bool) (t : St) : Int := (if t.dot then t.dp else t.nd) * (if hx then 4 else 1)
def nmv (hx : Bool) (t : St) : Int := t.nm * (if hx then 4 else 1)
def fin (hx : Bool) (t : St) (r : List UInt8) : Option Out :=
  if t.sd then (z2t hx t.us r).map fun x => ⟨t.m, if t.m = 0 then 0 else dpv hx t + x.1 - nmv hx t, t.tr, x.2.1, x.2.2⟩ else none
theorem escan_us {l : List UInt8} {k e : Nat} {us : Bool} (h : k < l.length) (hc : l[k].toNat = 95) : z3n (l.drop k) e us = z3n (l.drop (k + 1)) e true := by
  rw [drop_at l k h, z3n, if_pos hc]
theorem escan_digit {l : List UInt8} {k e : Nat} {us : Bool} (h : k < l.length) (hc : ¬ l[k].toNat = 95) (hd : 48 ≤ l[k].toNat ∧ l[k].toNat ≤ 57) : z3n (l.drop k) e us = z3n (l.drop (k + 1)) (if e < 10000 then e * 10 + (l[k].toNat - 48) else e) us := by
  rw [drop_at l k h, z3n, if_neg hc, if_pos hd]
theorem escan_stop {l : List UInt8} {k e : Nat} {us : Bool} (h : k < l.length) (hc : ¬ l[k].toNat = 95) (hd : ¬ (48 ≤ l[k].toNat ∧ l[k].toNat ≤ 57)) : z3n (l.drop k) e us = (e, us, l.drop k) := by
  rw [drop_at l k h, z3n, if_neg hc, if_neg hd]
theorem escan_end {l : List UInt8} {k e : Nat} {us : Bool} (h : l.length ≤ k) : z3n (l.drop k) e us = (e, us, l.drop k) := by
  rw [List.drop_of_length_le h, z3n]
theorem z6i {us : Bool} {c : UInt8} {r : List UInt8} (h : lw c.toNat = 101) : z2t false us (c :: r) = eat us r := by unfold z2t; exact if_pos h
theorem expPart_hit_x {us : Bool} {c : UInt8} {r : List UInt8} (h : lw c.toNat = 112) : z2t true us (c :: r) = eat us r := by unfold z2t; exact if_pos h
theorem z5t {us : Bool} {c : UInt8} {r : List UInt8} (h : ¬ lw c.toNat = 101) : z2t false us (c :: r) = some (0, us, c :: r) := by unfold z2t; exact if_neg h
theorem expPart_miss_x {us : Bool} {c : UInt8} {r : List UInt8} (h : ¬ lw c.toNat = 112) : z2t true us (c :: r) = none := by unfold z2t; exact if_neg h
end Go.Proofs.YtjpiplplohapnaaGreatDoor.Rf
namespace Go.Proofs.YtjpiplplohapnaaGreatDoor.Rf
theorem esc_digits : ∀ (l : List UInt8) (e : Nat), (∀ c ∈ l, Num.isD c) → Num.dv e l < 100000 → l.length ≤ 4 ∨ Num.dv e l < 10000 → z3n l e false = (Num.dv e l, false, [])
  | [], e, _, _, _ => by rw [z3n, Num.z3q]
  | c :: l, e, h, h1, h2 => by
    have hc := h c (by simp)
    have hce : 48 ≤ c.toNat ∧ c.toNat ≤ 57 := hc
    have hge := Num.dv_ge l (10 * e + (c.toNat - 48))
    rw [Num.z2u] at h1 h2 ⊢
    have hp : 1 ≤ 10 ^ l.length := Nat.pow_pos (by decide)
    have hle : (10 * e + (c.toNat - 48)) * 1 ≤ (10 * e + (c.toNat - 48)) * 10 ^ l.length := Nat.mul_le_mul_left _ hp
    rw [z3n, if_neg (by omega), if_pos hce, if_pos (by omega), show e * 10 + (c.toNat - 48) = 10 * e + (c.toNat - 48) by omega]
    exact esc_digits l _ (fun x hx => h x (by simp [hx])) h1 (by
      rcases h2 with h2 | h2
      · left; simp at h2; omega
      right; exact h2)
theorem starts_digits {l : List UInt8} (h : ∀ c ∈ l, Num.isD c) (h0 : l ≠ []) : z6a l = true := by
  cases l with
  | nil => exact absurd rfl h0
  | cons c l =>
    have hc : 48 ≤ c.toNat ∧ c.toNat ≤ 57 := h c (by simp)
    rw [z6a, decide_eq_true hc.1, decide_eq_true hc.2]; rfl
end Go.Proofs.YtjpiplplohapnaaGreatDoor.Rf
