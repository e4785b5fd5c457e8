/- Part 6 of the proof: Fo. -/
import Derived.Test.YtjpiplplohapnaaGreatDoorRi5
import Derived.Deep.CutBlock
import Derived.Deep.DeepCutAuto
set_option linter.unusedVariables false
set_option linter.unusedSimpArgs false
namespace Go.Proofs.YtjpiplplohapnaaGreatDoor
open Go.RowKit Go.Proofs.YtjpiplplohapnaaGreatDoorW.PrintWords Go.Proofs.YtjpiplplohapnaaGreatDoorW.PrintLast Go.Proofs.YtjpiplplohapnaaGreatDoorW.PrintMore Rf Big
theorem digits_ev (s : ByteArray) (hs : s.size ≤ 1000000) : ∀ (n i : Nat), n + i = s.size → Ev (fun k => PText.text_digits.l0 k s (i : Int)) ((i + dl (s.data.toList.drop i) : Nat) : Int)
  | 0, i, h => by
    refine Ev.step (f := fun _ => some (i : Int)) (fun k => ?_) ?_
    · rw [PText.text_digits.l0, if_neg (by omega)]
    · rw [List.drop_of_length_le (by rw [Array.length_toList]; show s.size ≤ i; omega)]
      exact Ev.now _
  | n + 1, i, h => by
    have hl : i < s.data.toList.length := by rw [Array.length_toList]; show i < s.size; omega
    have hi : i < s.size := by omega
    have hb : bt s (i : Int) = (s.data.toList[i].toNat : Int) := bt_nat s i hi
    have e : ∀ k, PText.text_digits.l0 (k + 1) s (i : Int) = (if (bt s i) ≥ 48 then (if (bt s i) ≤ 57 then (PText.text_digits.l0 k s (wrap64 ((i : Int) + 1))) else (some (i : Int))) else (some (i : Int))) := by
      intro k
      rw [PText.text_digits.l0, if_pos (by omega), if_pos (by omega)]
    rw [drop_at _ _ hl, dl]
    generalize s.data.toList[i].toNat = c at *
    by_cases c1 : 48 ≤ c ∧ c ≤ 57
    · rw [if_pos c1]
      have := digits_ev s hs n (i + 1) (by omega)
      rw [show i + 1 + dl (List.drop (i + 1) s.data.toList) = i + (dl (List.drop (i + 1) s.data.toList) + 1) by omega] at this
      refine Ev.step (fun k => ?_) this
      rw [e, if_pos (by omega), if_pos (by omega), Big.w64 (by omega) (by omega)]
      rfl
    · rw [if_neg c1]
      by_cases c2 : 48 ≤ c
      · exact Ev.step (f := fun _ => some (i : Int)) (fun k => by rw [e, if_pos (by omega), if_neg (by omega)]) (Ev.now _)
      · exact Ev.step (f := fun _ => some (i : Int)) (fun k => by rw [e, if_neg (by omega)]) (Ev.now _)
theorem digits_walk (s : ByteArray) (hs : s.size ≤ 1000000) (i : Nat) (hi : i ≤ s.size) (w : World) :
    Calls Tryz.prog 59 #[.string s, .int .i64 i] w fun e w' => (∃ k : Nat, e = .returned (.int .i64 k) ∧ k = i + dl (s.data.toList.drop i)) ∧ Below w.heap.size w w' := by
  obtain ⟨k, hk⟩ := (digits_ev s hs (s.size - i) i (by omega)).rounds
  exact (PText.text_digits.calls k s i _ w hk).mono fun e w' ⟨h1, h2⟩ => ⟨⟨_, h1, rfl⟩, h2.below⟩
theorem drop_len (s : ByteArray) (i : Nat) : (s.data.toList.drop i).length = s.size - i := by
  rw [List.length_drop, Array.length_toList]; rfl
theorem dl_drop (s : ByteArray) (i : Nat) (hi : i ≤ s.size) : i + dl (s.data.toList.drop i) ≤ s.size := by
  have h1 := dl_le (s.data.toList.drop i)
  rw [drop_len] at h1
  omega
theorem drop_byte (s : ByteArray) (i : Nat) (hi : i < s.size) : s.data.toList.drop i = s[i] :: s.data.toList.drop (i + 1) := drop_at s.data.toList i (by rw [Array.length_toList]; exact hi)
theorem drop_end (s : ByteArray) (i : Nat) (hi : s.size ≤ i) : s.data.toList.drop i = [] := List.drop_of_length_le (by rw [Array.length_toList]; exact hi)
theorem formT_point {c : UInt8} {r : List UInt8} (h : c.toNat = 46) : formT (c :: r) = if dl r = 0 then false else powL (r.drop (dl r)) := by unfold formT; exact if_pos h
theorem formT_not {c : UInt8} {r : List UInt8} (h : ¬ c.toNat = 46) : formT (c :: r) = powL (c :: r) := by unfold formT; exact if_neg h
theorem powL_hit {c : UInt8} {r : List UInt8} (h : c.toNat = 101) : powL (c :: r) = powD (sgn r) := by unfold powL; exact if_pos h
theorem powL_not {c : UInt8} {r : List UInt8} (h : ¬ c.toNat = 101) : powL (c :: r) = false := by unfold powL; exact if_neg h
theorem sgn_hit {c : UInt8} {r : List UInt8} (h : c.toNat = 43 ∨ c.toNat = 45) : sgn (c :: r) = r := by unfold sgn; exact if_pos h
theorem sgn_not {c : UInt8} {r : List UInt8} (h : ¬ (c.toNat = 43 ∨ c.toNat = 45)) : sgn (c :: r) = c :: r := by unfold sgn; exact if_neg h
set_option maxRecDepth 100000 in
set_option maxHeartbeats 4000000 in
theorem formed_pos (s : ByteArray) (hs : s.size ≤ 1000) (ans : Bool) (h0 : 0 < s.size) (h45 : ¬ s[0].toNat = 45) (hM : ans = formM (s.data.toList.drop 0)) (w : World) : Calls Tryz.prog 23 #[.string s] w fun e w' => e = .returned (.bool ans) ∧ Below w.heap.size w w' := by
  obtain ⟨c0, hc0⟩ : ∃ c : Nat, (s[0]).toNat = c := ⟨_, rfl⟩
  have e0 : ((s[0].toNat : Nat) : Int) = c0 := by rw [hc0]
  have f0 : ((c0 : Int) == 45) = false := by simp; omega
  have h0I : (0 : Int) < s.size := by omega
  have HM := Lib.hid hM
  clear hM h45
  go_enter Tryz.func23, Tryz.ntmps23
  go_wp2_with fail
  refine wp_scope_hop 3 ?_
  go_wp2_with fail
  refine (digits_walk s (by omega) 0 (by omega) _).mono ?_
  rintro e w1 ⟨⟨k1, rfl, hk1⟩, hb1⟩
  have hd1 := dl_drop s 0 (by omega)
  by_cases hz : dl (s.data.toList.drop 0) = 0
  · have f5 : ((k1 : Int) == 0) = true := by simp; omega
    have HA : Hid (ans = false) := Lib.hid (by rw [HM.out]; unfold formM; rw [if_pos hz])
    have hk1c : k1 = 0 := by omega
    clear hz hk1 hd1
    subst hk1c
    go_wp2_with fail
    go_step3
    refine Exit.hop_goto _ _ rfl ?_
    go_wp2_with fail
    try rw [Exit.hop_ret]
    go_ret
    exact ⟨by rw [HA.out]; rfl, hb1⟩
  · have f5 : ((k1 : Int) == 0) = false := by simp; omega
    have hT : ans = formT (s.data.toList.drop k1) := by rw [HM.out]; unfold formM; rw [if_neg hz, List.drop_drop, hk1]
    have hk1s : k1 ≤ s.size := by omega
    clear hz hk1 hd1 HM
    by_cases hk2 : k1 < s.size
    · have hk2I : (k1 : Int) < s.size := by omega
      obtain ⟨c1, hc1⟩ : ∃ c : Nat, (s[k1]).toNat = c := ⟨_, rfl⟩
      have ec1 : ((s[k1].toNat : Nat) : Int) = c1 := by rw [hc1]
      by_cases h46 : c1 = 46
      · have f6 : ((c1 : Int) == 46) = true := by simp [h46]
        have hT2 : ans = if dl (s.data.toList.drop (k1 + 1)) = 0 then false else powL ((s.data.toList.drop (k1 + 1)).drop (dl (s.data.toList.drop (k1 + 1)))) := by rw [hT, drop_byte s k1 hk2, formT_point (by rw [hc1, h46])]
        have hn1 : IntKind.i64.wrap ((k1 : Int) + 1) = ((k1 + 1 : Nat) : Int) := by rw [Go.IntKind.wrap_i64]; omega
        have hn2 : (k1 : Int) + 1 = ((k1 + 1 : Nat) : Int) := by omega
        clear hT h46
        obtain ⟨kp, hkp⟩ : ∃ kp : Nat, kp = k1 + 1 := ⟨_, rfl⟩
        rw [← hkp] at hT2 hn1 hn2
        have hkps : kp ≤ s.size := by omega
        have HT2 := Lib.hid hT2
        clear hT2 hkp
        go_wp2_with fail
        go_step3
        refine Exit.hop_goto _ _ rfl ?_
        go_wp2_with fail
        refine (digits_walk s (by omega) kp (by omega) _).mono ?_
        rintro e w2 ⟨⟨k3, rfl, hk3⟩, hb2⟩
        have hb02 := hb1.trans (hb2.mono hb1.size)
        have hd3 := dl_drop s kp (by omega)
        by_cases hz2 : dl (s.data.toList.drop kp) = 0
        · have f7 : ((k3 : Int) == (kp : Int)) = true := by simp; omega
          have HA : Hid (ans = false) := Lib.hid (by rw [HT2.out, if_pos hz2])
          have hk3c : k3 = kp := by omega
          clear hz2 hk3 hd3
          subst hk3c
          go_wp2_with fail
          go_step3
          refine Exit.hop_goto _ _ rfl ?_
          go_wp2_with fail
          try rw [Exit.hop_ret]
          go_ret
          exact ⟨by rw [HA.out]; rfl, hb02⟩
        · have f7 : ((k3 : Int) == (kp : Int)) = false := by simp; omega
          have HPW : Hid (ans = powL (s.data.toList.drop k3)) := Lib.hid (by rw [HT2.out, if_neg hz2, List.drop_drop, hk3])
          have hk3s : k3 ≤ s.size := by omega
          clear hz2 hk3 hd3 HT2
          go_wp2_with fail
          go_step3
          by_cases hke : k3 < s.size
          · have hkI : (k3 : Int) < s.size := by omega
            have f1 : ((k3 : Int) == (s.size : Int)) = false := by simp; omega
            obtain ⟨c2, hc2⟩ : ∃ c : Nat, (s[k3]).toNat = c := ⟨_, rfl⟩
            have ec2 : ((s[k3].toNat : Nat) : Int) = c2 := by rw [hc2]
            by_cases h101 : c2 = 101
            · have f2 : ((c2 : Int) != 101) = false := by simp [h101]
              have hP : ans = powD (sgn (s.data.toList.drop (k3 + 1))) := by rw [HPW.out, drop_byte s k3 hke, powL_hit (by rw [hc2, h101])]
              have hn1 : IntKind.i64.wrap ((k3 : Int) + 1) = ((k3 + 1 : Nat) : Int) := by rw [Go.IntKind.wrap_i64]; omega
              have hn2 : (k3 : Int) + 1 = ((k3 + 1 : Nat) : Int) := by omega
              obtain ⟨k5, hk5⟩ : ∃ k5 : Nat, k5 = k3 + 1 := ⟨_, rfl⟩
              rw [← hk5] at hP hn1 hn2
              have hk5s : k5 ≤ s.size := by omega
              clear h101 hk5
              by_cases hk6 : k5 < s.size
              · have hk6I : (k5 : Int) < s.size := by omega
                have hk6J : ((k5 : Int)).toNat < s.size := by omega
                obtain ⟨c3, hc3⟩ : ∃ c : Nat, (s[k5]).toNat = c := ⟨_, rfl⟩
                have ec3 : ((s[k5].toNat : Nat) : Int) = c3 := by rw [hc3]
                have hn3 : IntKind.i64.wrap ((k5 : Int) + 1) = ((k5 + 1 : Nat) : Int) := by rw [Go.IntKind.wrap_i64]; omega
                have hn4 : (k5 : Int) + 1 = ((k5 + 1 : Nat) : Int) := by omega
                by_cases h43 : c3 = 43
                · have f3 : ((c3 : Int) == 43) = true := by simp [h43]
                  have HP := Lib.hid (hP.trans (by rw [drop_byte s k5 hk6, sgn_hit (Or.inl (by rw [hc3, h43]))]))
                  clear h43 hP
                  obtain ⟨k7, hk7⟩ : ∃ k7 : Nat, k7 = k5 + 1 := ⟨_, rfl⟩
                  rw [← hk7] at HP hn3 hn4
                  have hk7s : k7 ≤ s.size := by omega
                  clear hk7
                  go_wp2_with fail
                  refine (digits_walk s (by omega) (k7) (by omega) _).mono ?_
                  rintro e w9 ⟨⟨k9, rfl, hk9⟩, hb9⟩
                  have hb09 := hb02.trans (hb9.mono hb02.size)
                  have hv9 : ans = decide (k9 = s.size ∧ 1 ≤ k9 - (k7) ∧ k9 - (k7) ≤ 4) := by
                    rw [HP.out]; unfold powD
                    rw [drop_len]
                    apply decide_eq_decide.2
                    have := dl_drop s (k7) (by omega)
                    constructor
                    · intro ⟨q1, q2, q3⟩; omega
                    · intro ⟨q1, q2, q3⟩; omega
                  have hge : (k7) ≤ k9 ∧ k9 ≤ s.size := by have := dl_drop s (k7) (by omega); omega
                  have hw9 : IntKind.i64.wrap ((k9 : Int) - ((k7 : Nat) : Int)) = ((k9 - (k7) : Nat) : Int) := by rw [Go.IntKind.wrap_i64]; omega
                  have HG := Lib.hid hge
                  clear hk9 hge
                  obtain ⟨m9, hm9⟩ : ∃ m : Nat, m = k9 - (k7) := ⟨_, rfl⟩
                  rw [← hm9] at hv9 hw9
                  have hw8 : (k9 : Int) - ((k7 : Nat) : Int) = (m9 : Int) := by have := HG.out; omega
                  have hmb : m9 ≤ 1000 := by have := HG.out; omega
                  have HV := Lib.hid hv9
                  clear hv9 hm9
                  by_cases p1 : k9 = s.size
                  · have q1 : ((k9 : Int) == (s.size : Int)) = true := by simp [p1]
                    by_cases p2 : 1 ≤ m9
                    · have q2 : (1 : Int) ≤ m9 := by omega
                      have q5 : decide ((1 : Int) ≤ m9) = true := by simp; omega
                      by_cases p3 : m9 ≤ 4
                      · have q3 : (m9 : Int) ≤ 4 := by omega
                        have q4 : decide ((m9 : Int) ≤ 4) = true := by simp; omega
                        have HA : Hid (ans = true) := Lib.hid (HV.out.trans (by simp [p1, p2, p3]))
                        clear p1 p2 p3
                        go_wp2_with fail
                        try rw [Exit.hop_ret]
                        go_ret
                        exact ⟨by rw [HA.out]; first | rfl | (congr 1), hb09⟩
                      · have q3 : ¬ (m9 : Int) ≤ 4 := by omega
                        have q4 : decide ((m9 : Int) ≤ 4) = false := by simp; omega
                        have HA : Hid (ans = false) := Lib.hid (HV.out.trans (by simp [p1, p2, p3]))
                        clear p1 p2 p3
                        go_wp2_with fail
                        try rw [Exit.hop_ret]
                        go_ret
                        exact ⟨by rw [HA.out]; first | rfl | (congr 1), hb09⟩
                    · have q2 : ¬ (1 : Int) ≤ m9 := by omega
                      have q5 : decide ((1 : Int) ≤ m9) = false := by simp; omega
                      have HA : Hid (ans = false) := Lib.hid (HV.out.trans (by simp [p2]))
                      clear p1 p2
                      go_wp2_with fail
                      try rw [Exit.hop_ret]
                      go_ret
                      exact ⟨by rw [HA.out]; first | rfl | (congr 1), hb09⟩
                  · have q1 : ((k9 : Int) == (s.size : Int)) = false := by simp; omega
                    have HA : Hid (ans = false) := Lib.hid (HV.out.trans (by simp [p1]))
                    clear p1
                    go_wp2_with fail
                    try rw [Exit.hop_ret]
                    go_ret
                    exact ⟨by rw [HA.out]; first | rfl | (congr 1), hb09⟩
                · have f3 : ((c3 : Int) == 43) = false := by simp; omega
                  by_cases h45 : c3 = 45
                  · have f4 : ((c3 : Int) == 45) = true := by simp [h45]
                    have HP := Lib.hid (hP.trans (by rw [drop_byte s k5 hk6, sgn_hit (Or.inr (by rw [hc3, h45]))]))
                    clear h43 h45 hP
                    obtain ⟨k7, hk7⟩ : ∃ k7 : Nat, k7 = k5 + 1 := ⟨_, rfl⟩
                    rw [← hk7] at HP hn3 hn4
                    have hk7s : k7 ≤ s.size := by omega
                    clear hk7
                    go_wp2_with fail
                    refine (digits_walk s (by omega) (k7) (by omega) _).mono ?_
                    rintro e w9 ⟨⟨k9, rfl, hk9⟩, hb9⟩
                    have hb09 := hb02.trans (hb9.mono hb02.size)
                    have hv9 : ans = decide (k9 = s.size ∧ 1 ≤ k9 - (k7) ∧ k9 - (k7) ≤ 4) := by
                      rw [HP.out]; unfold powD
                      rw [drop_len]
                      apply decide_eq_decide.2
                      have := dl_drop s (k7) (by omega)
                      constructor
                      · intro ⟨q1, q2, q3⟩; omega
                      · intro ⟨q1, q2, q3⟩; omega
                    have hge : (k7) ≤ k9 ∧ k9 ≤ s.size := by have := dl_drop s (k7) (by omega); omega
                    have hw9 : IntKind.i64.wrap ((k9 : Int) - ((k7 : Nat) : Int)) = ((k9 - (k7) : Nat) : Int) := by rw [Go.IntKind.wrap_i64]; omega
                    have HG := Lib.hid hge
                    clear hk9 hge
                    obtain ⟨m9, hm9⟩ : ∃ m : Nat, m = k9 - (k7) := ⟨_, rfl⟩
                    rw [← hm9] at hv9 hw9
                    have hw8 : (k9 : Int) - ((k7 : Nat) : Int) = (m9 : Int) := by have := HG.out; omega
                    have hmb : m9 ≤ 1000 := by have := HG.out; omega
                    have HV := Lib.hid hv9
                    clear hv9 hm9
                    by_cases p1 : k9 = s.size
                    · have q1 : ((k9 : Int) == (s.size : Int)) = true := by simp [p1]
                      by_cases p2 : 1 ≤ m9
                      · have q2 : (1 : Int) ≤ m9 := by omega
                        have q5 : decide ((1 : Int) ≤ m9) = true := by simp; omega
                        by_cases p3 : m9 ≤ 4
                        · have q3 : (m9 : Int) ≤ 4 := by omega
                          have q4 : decide ((m9 : Int) ≤ 4) = true := by simp; omega
                          have HA : Hid (ans = true) := Lib.hid (HV.out.trans (by simp [p1, p2, p3]))
                          clear p1 p2 p3
                          go_wp2_with fail
                          try rw [Exit.hop_ret]
                          go_ret
                          exact ⟨by rw [HA.out]; first | rfl | (congr 1), hb09⟩
                        · have q3 : ¬ (m9 : Int) ≤ 4 := by omega
                          have q4 : decide ((m9 : Int) ≤ 4) = false := by simp; omega
                          have HA : Hid (ans = false) := Lib.hid (HV.out.trans (by simp [p1, p2, p3]))
                          clear p1 p2 p3
                          go_wp2_with fail
                          try rw [Exit.hop_ret]
                          go_ret
                          exact ⟨by rw [HA.out]; first | rfl | (congr 1), hb09⟩
                      · have q2 : ¬ (1 : Int) ≤ m9 := by omega
                        have q5 : decide ((1 : Int) ≤ m9) = false := by simp; omega
                        have HA : Hid (ans = false) := Lib.hid (HV.out.trans (by simp [p2]))
                        clear p1 p2
                        go_wp2_with fail
                        try rw [Exit.hop_ret]
                        go_ret
                        exact ⟨by rw [HA.out]; first | rfl | (congr 1), hb09⟩
                    · have q1 : ((k9 : Int) == (s.size : Int)) = false := by simp; omega
                      have HA : Hid (ans = false) := Lib.hid (HV.out.trans (by simp [p1]))
                      clear p1
                      go_wp2_with fail
                      try rw [Exit.hop_ret]
                      go_ret
                      exact ⟨by rw [HA.out]; first | rfl | (congr 1), hb09⟩
                  · have f4 : ((c3 : Int) == 45) = false := by simp; omega
                    have HP : Hid (ans = powD (s.data.toList.drop k5)) := Lib.hid (hP.trans (by rw [drop_byte s k5 hk6, sgn_not (by rw [hc3]; omega)]))
                    clear h43 h45 hP
                    go_wp2_with fail
                    refine (digits_walk s (by omega) (k5) (by omega) _).mono ?_
                    rintro e w9 ⟨⟨k9, rfl, hk9⟩, hb9⟩
                    have hb09 := hb02.trans (hb9.mono hb02.size)
                    have hv9 : ans = decide (k9 = s.size ∧ 1 ≤ k9 - (k5) ∧ k9 - (k5) ≤ 4) := by
                      rw [HP.out]; unfold powD
                      rw [drop_len]
                      apply decide_eq_decide.2
                      have := dl_drop s (k5) (by omega)
                      constructor
                      · intro ⟨q1, q2, q3⟩; omega
                      · intro ⟨q1, q2, q3⟩; omega
                    have hge : (k5) ≤ k9 ∧ k9 ≤ s.size := by have := dl_drop s (k5) (by omega); omega
                    have hw9 : IntKind.i64.wrap ((k9 : Int) - ((k5 : Nat) : Int)) = ((k9 - (k5) : Nat) : Int) := by rw [Go.IntKind.wrap_i64]; omega
                    have HG := Lib.hid hge
                    clear hk9 hge
                    obtain ⟨m9, hm9⟩ : ∃ m : Nat, m = k9 - (k5) := ⟨_, rfl⟩
                    rw [← hm9] at hv9 hw9
                    have hw8 : (k9 : Int) - ((k5 : Nat) : Int) = (m9 : Int) := by have := HG.out; omega
                    have hmb : m9 ≤ 1000 := by have := HG.out; omega
                    have HV := Lib.hid hv9
                    clear hv9 hm9
                    by_cases p1 : k9 = s.size
                    · have q1 : ((k9 : Int) == (s.size : Int)) = true := by simp [p1]
                      by_cases p2 : 1 ≤ m9
                      · have q2 : (1 : Int) ≤ m9 := by omega
                        have q5 : decide ((1 : Int) ≤ m9) = true := by simp; omega
                        by_cases p3 : m9 ≤ 4
                        · have q3 : (m9 : Int) ≤ 4 := by omega
                          have q4 : decide ((m9 : Int) ≤ 4) = true := by simp; omega
                          have HA : Hid (ans = true) := Lib.hid (HV.out.trans (by simp [p1, p2, p3]))
                          clear p1 p2 p3
                          go_wp2_with fail
                          try rw [Exit.hop_ret]
                          go_ret
                          exact ⟨by rw [HA.out]; first | rfl | (congr 1), hb09⟩
                        · have q3 : ¬ (m9 : Int) ≤ 4 := by omega
                          have q4 : decide ((m9 : Int) ≤ 4) = false := by simp; omega
                          have HA : Hid (ans = false) := Lib.hid (HV.out.trans (by simp [p1, p2, p3]))
                          clear p1 p2 p3
                          go_wp2_with fail
                          try rw [Exit.hop_ret]
                          go_ret
                          exact ⟨by rw [HA.out]; first | rfl | (congr 1), hb09⟩
                      · have q2 : ¬ (1 : Int) ≤ m9 := by omega
                        have q5 : decide ((1 : Int) ≤ m9) = false := by simp; omega
                        have HA : Hid (ans = false) := Lib.hid (HV.out.trans (by simp [p2]))
                        clear p1 p2
                        go_wp2_with fail
                        try rw [Exit.hop_ret]
                        go_ret
                        exact ⟨by rw [HA.out]; first | rfl | (congr 1), hb09⟩
                    · have q1 : ((k9 : Int) == (s.size : Int)) = false := by simp; omega
                      have HA : Hid (ans = false) := Lib.hid (HV.out.trans (by simp [p1]))
                      clear p1
                      go_wp2_with fail
                      try rw [Exit.hop_ret]
                      go_ret
                      exact ⟨by rw [HA.out]; first | rfl | (congr 1), hb09⟩
              · have hk6I : ¬ (k5 : Int) < s.size := by omega
                have HP : Hid (ans = powD (s.data.toList.drop k5)) := Lib.hid (hP.trans (by rw [drop_end s k5 (by omega)]; rfl))
                clear hP
                go_wp2_with fail
                refine (digits_walk s (by omega) (k5) (by omega) _).mono ?_
                rintro e w9 ⟨⟨k9, rfl, hk9⟩, hb9⟩
                have hb09 := hb02.trans (hb9.mono hb02.size)
                have hv9 : ans = decide (k9 = s.size ∧ 1 ≤ k9 - (k5) ∧ k9 - (k5) ≤ 4) := by
                  rw [HP.out]; unfold powD
                  rw [drop_len]
                  apply decide_eq_decide.2
                  have := dl_drop s (k5) (by omega)
                  constructor
                  · intro ⟨q1, q2, q3⟩; omega
                  · intro ⟨q1, q2, q3⟩; omega
                have hge : (k5) ≤ k9 ∧ k9 ≤ s.size := by have := dl_drop s (k5) (by omega); omega
                have hw9 : IntKind.i64.wrap ((k9 : Int) - ((k5 : Nat) : Int)) = ((k9 - (k5) : Nat) : Int) := by rw [Go.IntKind.wrap_i64]; omega
                have HG := Lib.hid hge
                clear hk9 hge
                obtain ⟨m9, hm9⟩ : ∃ m : Nat, m = k9 - (k5) := ⟨_, rfl⟩
                rw [← hm9] at hv9 hw9
                have hw8 : (k9 : Int) - ((k5 : Nat) : Int) = (m9 : Int) := by have := HG.out; omega
                have hmb : m9 ≤ 1000 := by have := HG.out; omega
                have HV := Lib.hid hv9
                clear hv9 hm9
                by_cases p1 : k9 = s.size
                · have q1 : ((k9 : Int) == (s.size : Int)) = true := by simp [p1]
                  by_cases p2 : 1 ≤ m9
                  · have q2 : (1 : Int) ≤ m9 := by omega
                    have q5 : decide ((1 : Int) ≤ m9) = true := by simp; omega
                    by_cases p3 : m9 ≤ 4
                    · have q3 : (m9 : Int) ≤ 4 := by omega
                      have q4 : decide ((m9 : Int) ≤ 4) = true := by simp; omega
                      have HA : Hid (ans = true) := Lib.hid (HV.out.trans (by simp [p1, p2, p3]))
                      clear p1 p2 p3
                      go_wp2_with fail
                      try rw [Exit.hop_ret]
                      go_ret
                      exact ⟨by rw [HA.out]; first | rfl | (congr 1), hb09⟩
                    · have q3 : ¬ (m9 : Int) ≤ 4 := by omega
                      have q4 : decide ((m9 : Int) ≤ 4) = false := by simp; omega
                      have HA : Hid (ans = false) := Lib.hid (HV.out.trans (by simp [p1, p2, p3]))
                      clear p1 p2 p3
                      go_wp2_with fail
                      try rw [Exit.hop_ret]
                      go_ret
                      exact ⟨by rw [HA.out]; first | rfl | (congr 1), hb09⟩
                  · have q2 : ¬ (1 : Int) ≤ m9 := by omega
                    have q5 : decide ((1 : Int) ≤ m9) = false := by simp; omega
                    have HA : Hid (ans = false) := Lib.hid (HV.out.trans (by simp [p2]))
                    clear p1 p2
                    go_wp2_with fail
                    try rw [Exit.hop_ret]
                    go_ret
                    exact ⟨by rw [HA.out]; first | rfl | (congr 1), hb09⟩
                · have q1 : ((k9 : Int) == (s.size : Int)) = false := by simp; omega
                  have HA : Hid (ans = false) := Lib.hid (HV.out.trans (by simp [p1]))
                  clear p1
                  go_wp2_with fail
                  try rw [Exit.hop_ret]
                  go_ret
                  exact ⟨by rw [HA.out]; first | rfl | (congr 1), hb09⟩
            · have f2 : ((c2 : Int) != 101) = true := by simp; omega
              have HA : Hid (ans = false) := Lib.hid (by rw [HPW.out, drop_byte s k3 hke, powL_not (by rw [hc2]; exact h101)])
              clear h101
              go_wp2_with fail
              go_step3
              refine Exit.hop_goto _ _ rfl ?_
              go_wp2_with fail
              try rw [Exit.hop_ret]
              go_ret
              exact ⟨by rw [HA.out]; rfl, hb02⟩
          · have hkI : ¬ (k3 : Int) < s.size := by omega
            have f1 : ((k3 : Int) == (s.size : Int)) = true := by simp; omega
            have HA : Hid (ans = true) := Lib.hid (by rw [HPW.out, drop_end s k3 (by omega)]; rfl)
            go_wp2_with fail
            try rw [Exit.hop_ret]
            go_ret
            exact ⟨by rw [HA.out]; first | rfl | (congr 1), hb02⟩
      · have f6 : ((c1 : Int) == 46) = false := by simp; omega
        have HPW : Hid (ans = powL (s.data.toList.drop k1)) := Lib.hid (by rw [hT, drop_byte s k1 hk2, formT_not (by rw [hc1]; exact h46)])
        clear hT h46
        go_wp2_with fail
        go_step3
        refine Exit.hop_goto _ _ rfl ?_
        by_cases hke : k1 < s.size
        · have hkI : (k1 : Int) < s.size := by omega
          have f1 : ((k1 : Int) == (s.size : Int)) = false := by simp; omega
          obtain ⟨c2, hc2⟩ : ∃ c : Nat, (s[k1]).toNat = c := ⟨_, rfl⟩
          have ec2 : ((s[k1].toNat : Nat) : Int) = c2 := by rw [hc2]
          by_cases h101 : c2 = 101
          · have f2 : ((c2 : Int) != 101) = false := by simp [h101]
            have hP : ans = powD (sgn (s.data.toList.drop (k1 + 1))) := by rw [HPW.out, drop_byte s k1 hke, powL_hit (by rw [hc2, h101])]
            have hn1 : IntKind.i64.wrap ((k1 : Int) + 1) = ((k1 + 1 : Nat) : Int) := by rw [Go.IntKind.wrap_i64]; omega
            have hn2 : (k1 : Int) + 1 = ((k1 + 1 : Nat) : Int) := by omega
            obtain ⟨k5, hk5⟩ : ∃ k5 : Nat, k5 = k1 + 1 := ⟨_, rfl⟩
            rw [← hk5] at hP hn1 hn2
            have hk5s : k5 ≤ s.size := by omega
            clear h101 hk5
            by_cases hk6 : k5 < s.size
            · have hk6I : (k5 : Int) < s.size := by omega
              have hk6J : ((k5 : Int)).toNat < s.size := by omega
              obtain ⟨c3, hc3⟩ : ∃ c : Nat, (s[k5]).toNat = c := ⟨_, rfl⟩
              have ec3 : ((s[k5].toNat : Nat) : Int) = c3 := by rw [hc3]
              have hn3 : IntKind.i64.wrap ((k5 : Int) + 1) = ((k5 + 1 : Nat) : Int) := by rw [Go.IntKind.wrap_i64]; omega
              have hn4 : (k5 : Int) + 1 = ((k5 + 1 : Nat) : Int) := by omega
              by_cases h43 : c3 = 43
              · have f3 : ((c3 : Int) == 43) = true := by simp [h43]
                have HP := Lib.hid (hP.trans (by rw [drop_byte s k5 hk6, sgn_hit (Or.inl (by rw [hc3, h43]))]))
                clear h43 hP
                obtain ⟨k7, hk7⟩ : ∃ k7 : Nat, k7 = k5 + 1 := ⟨_, rfl⟩
                rw [← hk7] at HP hn3 hn4
                have hk7s : k7 ≤ s.size := by omega
                clear hk7
                go_wp2_with fail
                refine (digits_walk s (by omega) (k7) (by omega) _).mono ?_
                rintro e w9 ⟨⟨k9, rfl, hk9⟩, hb9⟩
                have hb09 := hb1.trans (hb9.mono hb1.size)
                have hv9 : ans = decide (k9 = s.size ∧ 1 ≤ k9 - (k7) ∧ k9 - (k7) ≤ 4) := by
                  rw [HP.out]; unfold powD
                  rw [drop_len]
                  apply decide_eq_decide.2
                  have := dl_drop s (k7) (by omega)
                  constructor
                  · intro ⟨q1, q2, q3⟩; omega
                  · intro ⟨q1, q2, q3⟩; omega
                have hge : (k7) ≤ k9 ∧ k9 ≤ s.size := by have := dl_drop s (k7) (by omega); omega
                have hw9 : IntKind.i64.wrap ((k9 : Int) - ((k7 : Nat) : Int)) = ((k9 - (k7) : Nat) : Int) := by rw [Go.IntKind.wrap_i64]; omega
                have HG := Lib.hid hge
                clear hk9 hge
                obtain ⟨m9, hm9⟩ : ∃ m : Nat, m = k9 - (k7) := ⟨_, rfl⟩
                rw [← hm9] at hv9 hw9
                have hw8 : (k9 : Int) - ((k7 : Nat) : Int) = (m9 : Int) := by have := HG.out; omega
                have hmb : m9 ≤ 1000 := by have := HG.out; omega
                have HV := Lib.hid hv9
                clear hv9 hm9
                by_cases p1 : k9 = s.size
                · have q1 : ((k9 : Int) == (s.size : Int)) = true := by simp [p1]
                  by_cases p2 : 1 ≤ m9
                  · have q2 : (1 : Int) ≤ m9 := by omega
                    have q5 : decide ((1 : Int) ≤ m9) = true := by simp; omega
                    by_cases p3 : m9 ≤ 4
                    · have q3 : (m9 : Int) ≤ 4 := by omega
                      have q4 : decide ((m9 : Int) ≤ 4) = true := by simp; omega
                      have HA : Hid (ans = true) := Lib.hid (HV.out.trans (by simp [p1, p2, p3]))
                      clear p1 p2 p3
                      go_wp2_with fail
                      try rw [Exit.hop_ret]
                      go_ret
                      exact ⟨by rw [HA.out]; first | rfl | (congr 1), hb09⟩
                    · have q3 : ¬ (m9 : Int) ≤ 4 := by omega
                      have q4 : decide ((m9 : Int) ≤ 4) = false := by simp; omega
                      have HA : Hid (ans = false) := Lib.hid (HV.out.trans (by simp [p1, p2, p3]))
                      clear p1 p2 p3
                      go_wp2_with fail
                      try rw [Exit.hop_ret]
                      go_ret
                      exact ⟨by rw [HA.out]; first | rfl | (congr 1), hb09⟩
                  · have q2 : ¬ (1 : Int) ≤ m9 := by omega
                    have q5 : decide ((1 : Int) ≤ m9) = false := by simp; omega
                    have HA : Hid (ans = false) := Lib.hid (HV.out.trans (by simp [p2]))
                    clear p1 p2
                    go_wp2_with fail
                    try rw [Exit.hop_ret]
                    go_ret
                    exact ⟨by rw [HA.out]; first | rfl | (congr 1), hb09⟩
                · have q1 : ((k9 : Int) == (s.size : Int)) = false := by simp; omega
                  have HA : Hid (ans = false) := Lib.hid (HV.out.trans (by simp [p1]))
                  clear p1
                  go_wp2_with fail
                  try rw [Exit.hop_ret]
                  go_ret
                  exact ⟨by rw [HA.out]; first | rfl | (congr 1), hb09⟩
              · have f3 : ((c3 : Int) == 43) = false := by simp; omega
                by_cases h45 : c3 = 45
                · have f4 : ((c3 : Int) == 45) = true := by simp [h45]
                  have HP := Lib.hid (hP.trans (by rw [drop_byte s k5 hk6, sgn_hit (Or.inr (by rw [hc3, h45]))]))
                  clear h43 h45 hP
                  obtain ⟨k7, hk7⟩ : ∃ k7 : Nat, k7 = k5 + 1 := ⟨_, rfl⟩
                  rw [← hk7] at HP hn3 hn4
                  have hk7s : k7 ≤ s.size := by omega
                  clear hk7
                  go_wp2_with fail
                  refine (digits_walk s (by omega) (k7) (by omega) _).mono ?_
                  rintro e w9 ⟨⟨k9, rfl, hk9⟩, hb9⟩
                  have hb09 := hb1.trans (hb9.mono hb1.size)
                  have hv9 : ans = decide (k9 = s.size ∧ 1 ≤ k9 - (k7) ∧ k9 - (k7) ≤ 4) := by
                    rw [HP.out]; unfold powD
                    rw [drop_len]
                    apply decide_eq_decide.2
                    have := dl_drop s (k7) (by omega)
                    constructor
                    · intro ⟨q1, q2, q3⟩; omega
                    · intro ⟨q1, q2, q3⟩; omega
                  have hge : (k7) ≤ k9 ∧ k9 ≤ s.size := by have := dl_drop s (k7) (by omega); omega
                  have hw9 : IntKind.i64.wrap ((k9 : Int) - ((k7 : Nat) : Int)) = ((k9 - (k7) : Nat) : Int) := by rw [Go.IntKind.wrap_i64]; omega
                  have HG := Lib.hid hge
                  clear hk9 hge
                  obtain ⟨m9, hm9⟩ : ∃ m : Nat, m = k9 - (k7) := ⟨_, rfl⟩
                  rw [← hm9] at hv9 hw9
                  have hw8 : (k9 : Int) - ((k7 : Nat) : Int) = (m9 : Int) := by have := HG.out; omega
                  have hmb : m9 ≤ 1000 := by have := HG.out; omega
                  have HV := Lib.hid hv9
                  clear hv9 hm9
                  by_cases p1 : k9 = s.size
                  · have q1 : ((k9 : Int) == (s.size : Int)) = true := by simp [p1]
                    by_cases p2 : 1 ≤ m9
                    · have q2 : (1 : Int) ≤ m9 := by omega
                      have q5 : decide ((1 : Int) ≤ m9) = true := by simp; omega
                      by_cases p3 : m9 ≤ 4
                      · have q3 : (m9 : Int) ≤ 4 := by omega
                        have q4 : decide ((m9 : Int) ≤ 4) = true := by simp; omega
                        have HA : Hid (ans = true) := Lib.hid (HV.out.trans (by simp [p1, p2, p3]))
                        clear p1 p2 p3
                        go_wp2_with fail
                        try rw [Exit.hop_ret]
                        go_ret
                        exact ⟨by rw [HA.out]; first | rfl | (congr 1), hb09⟩
                      · have q3 : ¬ (m9 : Int) ≤ 4 := by omega
                        have q4 : decide ((m9 : Int) ≤ 4) = false := by simp; omega
                        have HA : Hid (ans = false) := Lib.hid (HV.out.trans (by simp [p1, p2, p3]))
                        clear p1 p2 p3
                        go_wp2_with fail
                        try rw [Exit.hop_ret]
                        go_ret
                        exact ⟨by rw [HA.out]; first | rfl | (congr 1), hb09⟩
                    · have q2 : ¬ (1 : Int) ≤ m9 := by omega
                      have q5 : decide ((1 : Int) ≤ m9) = false := by simp; omega
                      have HA : Hid (ans = false) := Lib.hid (HV.out.trans (by simp [p2]))
                      clear p1 p2
                      go_wp2_with fail
                      try rw [Exit.hop_ret]
                      go_ret
                      exact ⟨by rw [HA.out]; first | rfl | (congr 1), hb09⟩
                  · have q1 : ((k9 : Int) == (s.size : Int)) = false := by simp; omega
                    have HA : Hid (ans = false) := Lib.hid (HV.out.trans (by simp [p1]))
                    clear p1
                    go_wp2_with fail
                    try rw [Exit.hop_ret]
                    go_ret
                    exact ⟨by rw [HA.out]; first | rfl | (congr 1), hb09⟩
                · have f4 : ((c3 : Int) == 45) = false := by simp; omega
                  have HP : Hid (ans = powD (s.data.toList.drop k5)) := Lib.hid (hP.trans (by rw [drop_byte s k5 hk6, sgn_not (by rw [hc3]; omega)]))
                  clear h43 h45 hP
                  go_wp2_with fail
                  refine (digits_walk s (by omega) (k5) (by omega) _).mono ?_
                  rintro e w9 ⟨⟨k9, rfl, hk9⟩, hb9⟩
                  have hb09 := hb1.trans (hb9.mono hb1.size)
                  have hv9 : ans = decide (k9 = s.size ∧ 1 ≤ k9 - (k5) ∧ k9 - (k5) ≤ 4) := by
                    rw [HP.out]; unfold powD
                    rw [drop_len]
                    apply decide_eq_decide.2
                    have := dl_drop s (k5) (by omega)
                    constructor
                    · intro ⟨q1, q2, q3⟩; omega
                    · intro ⟨q1, q2, q3⟩; omega
                  have hge : (k5) ≤ k9 ∧ k9 ≤ s.size := by have := dl_drop s (k5) (by omega); omega
                  have hw9 : IntKind.i64.wrap ((k9 : Int) - ((k5 : Nat) : Int)) = ((k9 - (k5) : Nat) : Int) := by rw [Go.IntKind.wrap_i64]; omega
                  have HG := Lib.hid hge
                  clear hk9 hge
                  obtain ⟨m9, hm9⟩ : ∃ m : Nat, m = k9 - (k5) := ⟨_, rfl⟩
                  rw [← hm9] at hv9 hw9
                  have hw8 : (k9 : Int) - ((k5 : Nat) : Int) = (m9 : Int) := by have := HG.out; omega
                  have hmb : m9 ≤ 1000 := by have := HG.out; omega
                  have HV := Lib.hid hv9
                  clear hv9 hm9
                  by_cases p1 : k9 = s.size
                  · have q1 : ((k9 : Int) == (s.size : Int)) = true := by simp [p1]
                    by_cases p2 : 1 ≤ m9
                    · have q2 : (1 : Int) ≤ m9 := by omega
                      have q5 : decide ((1 : Int) ≤ m9) = true := by simp; omega
                      by_cases p3 : m9 ≤ 4
                      · have q3 : (m9 : Int) ≤ 4 := by omega
                        have q4 : decide ((m9 : Int) ≤ 4) = true := by simp; omega
                        have HA : Hid (ans = true) := Lib.hid (HV.out.trans (by simp [p1, p2, p3]))
                        clear p1 p2 p3
                        go_wp2_with fail
                        try rw [Exit.hop_ret]
                        go_ret
                        exact ⟨by rw [HA.out]; first | rfl | (congr 1), hb09⟩
                      · have q3 : ¬ (m9 : Int) ≤ 4 := by omega
                        have q4 : decide ((m9 : Int) ≤ 4) = false := by simp; omega
                        have HA : Hid (ans = false) := Lib.hid (HV.out.trans (by simp [p1, p2, p3]))
                        clear p1 p2 p3
                        go_wp2_with fail
                        try rw [Exit.hop_ret]
                        go_ret
                        exact ⟨by rw [HA.out]; first | rfl | (congr 1), hb09⟩
                    · have q2 : ¬ (1 : Int) ≤ m9 := by omega
                      have q5 : decide ((1 : Int) ≤ m9) = false := by simp; omega
                      have HA : Hid (ans = false) := Lib.hid (HV.out.trans (by simp [p2]))
                      clear p1 p2
                      go_wp2_with fail
                      try rw [Exit.hop_ret]
                      go_ret
                      exact ⟨by rw [HA.out]; first | rfl | (congr 1), hb09⟩
                  · have q1 : ((k9 : Int) == (s.size : Int)) = false := by simp; omega
                    have HA : Hid (ans = false) := Lib.hid (HV.out.trans (by simp [p1]))
                    clear p1
                    go_wp2_with fail
                    try rw [Exit.hop_ret]
                    go_ret
                    exact ⟨by rw [HA.out]; first | rfl | (congr 1), hb09⟩
            · have hk6I : ¬ (k5 : Int) < s.size := by omega
              have HP : Hid (ans = powD (s.data.toList.drop k5)) := Lib.hid (hP.trans (by rw [drop_end s k5 (by omega)]; rfl))
              clear hP
              go_wp2_with fail
              refine (digits_walk s (by omega) (k5) (by omega) _).mono ?_
              rintro e w9 ⟨⟨k9, rfl, hk9⟩, hb9⟩
              have hb09 := hb1.trans (hb9.mono hb1.size)
              have hv9 : ans = decide (k9 = s.size ∧ 1 ≤ k9 - (k5) ∧ k9 - (k5) ≤ 4) := by
                rw [HP.out]; unfold powD
                rw [drop_len]
                apply decide_eq_decide.2
                have := dl_drop s (k5) (by omega)
                constructor
                · intro ⟨q1, q2, q3⟩; omega
                · intro ⟨q1, q2, q3⟩; omega
              have hge : (k5) ≤ k9 ∧ k9 ≤ s.size := by have := dl_drop s (k5) (by omega); omega
              have hw9 : IntKind.i64.wrap ((k9 : Int) - ((k5 : Nat) : Int)) = ((k9 - (k5) : Nat) : Int) := by rw [Go.IntKind.wrap_i64]; omega
              have HG := Lib.hid hge
              clear hk9 hge
              obtain ⟨m9, hm9⟩ : ∃ m : Nat, m = k9 - (k5) := ⟨_, rfl⟩
              rw [← hm9] at hv9 hw9
              have hw8 : (k9 : Int) - ((k5 : Nat) : Int) = (m9 : Int) := by have := HG.out; omega
              have hmb : m9 ≤ 1000 := by have := HG.out; omega
              have HV := Lib.hid hv9
              clear hv9 hm9
              by_cases p1 : k9 = s.size
              · have q1 : ((k9 : Int) == (s.size : Int)) = true := by simp [p1]
                by_cases p2 : 1 ≤ m9
                · have q2 : (1 : Int) ≤ m9 := by omega
                  have q5 : decide ((1 : Int) ≤ m9) = true := by simp; omega
                  by_cases p3 : m9 ≤ 4
                  · have q3 : (m9 : Int) ≤ 4 := by omega
                    have q4 : decide ((m9 : Int) ≤ 4) = true := by simp; omega
                    have HA : Hid (ans = true) := Lib.hid (HV.out.trans (by simp [p1, p2, p3]))
                    clear p1 p2 p3
                    go_wp2_with fail
                    try rw [Exit.hop_ret]
                    go_ret
                    exact ⟨by rw [HA.out]; first | rfl | (congr 1), hb09⟩
                  · have q3 : ¬ (m9 : Int) ≤ 4 := by omega
                    have q4 : decide ((m9 : Int) ≤ 4) = false := by simp; omega
                    have HA : Hid (ans = false) := Lib.hid (HV.out.trans (by simp [p1, p2, p3]))
                    clear p1 p2 p3
                    go_wp2_with fail
                    try rw [Exit.hop_ret]
                    go_ret
                    exact ⟨by rw [HA.out]; first | rfl | (congr 1), hb09⟩
                · have q2 : ¬ (1 : Int) ≤ m9 := by omega
                  have q5 : decide ((1 : Int) ≤ m9) = false := by simp; omega
                  have HA : Hid (ans = false) := Lib.hid (HV.out.trans (by simp [p2]))
                  clear p1 p2
                  go_wp2_with fail
                  try rw [Exit.hop_ret]
                  go_ret
                  exact ⟨by rw [HA.out]; first | rfl | (congr 1), hb09⟩
              · have q1 : ((k9 : Int) == (s.size : Int)) = false := by simp; omega
                have HA : Hid (ans = false) := Lib.hid (HV.out.trans (by simp [p1]))
                clear p1
                go_wp2_with fail
                try rw [Exit.hop_ret]
                go_ret
                exact ⟨by rw [HA.out]; first | rfl | (congr 1), hb09⟩
          · have f2 : ((c2 : Int) != 101) = true := by simp; omega
            have HA : Hid (ans = false) := Lib.hid (by rw [HPW.out, drop_byte s k1 hke, powL_not (by rw [hc2]; exact h101)])
            clear h101
            go_wp2_with fail
            go_step3
            refine Exit.hop_goto _ _ rfl ?_
            go_wp2_with fail
            try rw [Exit.hop_ret]
            go_ret
            exact ⟨by rw [HA.out]; rfl, hb1⟩
        · have hkI : ¬ (k1 : Int) < s.size := by omega
          have f1 : ((k1 : Int) == (s.size : Int)) = true := by simp; omega
          have HA : Hid (ans = true) := Lib.hid (by rw [HPW.out, drop_end s k1 (by omega)]; rfl)
          go_wp2_with fail
          try rw [Exit.hop_ret]
          go_ret
          exact ⟨by rw [HA.out]; first | rfl | (congr 1), hb1⟩
    · have hk2I : ¬ (k1 : Int) < s.size := by omega
      have HPW : Hid (ans = powL (s.data.toList.drop k1)) := Lib.hid (by rw [hT, drop_end s k1 (by omega)]; rfl)
      clear hT
      go_wp2_with fail
      go_step3
      refine Exit.hop_goto _ _ rfl ?_
      by_cases hke : k1 < s.size
      · have hkI : (k1 : Int) < s.size := by omega
        have f1 : ((k1 : Int) == (s.size : Int)) = false := by simp; omega
        obtain ⟨c2, hc2⟩ : ∃ c : Nat, (s[k1]).toNat = c := ⟨_, rfl⟩
        have ec2 : ((s[k1].toNat : Nat) : Int) = c2 := by rw [hc2]
        by_cases h101 : c2 = 101
        · have f2 : ((c2 : Int) != 101) = false := by simp [h101]
          have hP : ans = powD (sgn (s.data.toList.drop (k1 + 1))) := by rw [HPW.out, drop_byte s k1 hke, powL_hit (by rw [hc2, h101])]
          have hn1 : IntKind.i64.wrap ((k1 : Int) + 1) = ((k1 + 1 : Nat) : Int) := by rw [Go.IntKind.wrap_i64]; omega
          have hn2 : (k1 : Int) + 1 = ((k1 + 1 : Nat) : Int) := by omega
          obtain ⟨k5, hk5⟩ : ∃ k5 : Nat, k5 = k1 + 1 := ⟨_, rfl⟩
          rw [← hk5] at hP hn1 hn2
          have hk5s : k5 ≤ s.size := by omega
          clear h101 hk5
          by_cases hk6 : k5 < s.size
          · have hk6I : (k5 : Int) < s.size := by omega
            have hk6J : ((k5 : Int)).toNat < s.size := by omega
            obtain ⟨c3, hc3⟩ : ∃ c : Nat, (s[k5]).toNat = c := ⟨_, rfl⟩
            have ec3 : ((s[k5].toNat : Nat) : Int) = c3 := by rw [hc3]
            have hn3 : IntKind.i64.wrap ((k5 : Int) + 1) = ((k5 + 1 : Nat) : Int) := by rw [Go.IntKind.wrap_i64]; omega
            have hn4 : (k5 : Int) + 1 = ((k5 + 1 : Nat) : Int) := by omega
            by_cases h43 : c3 = 43
            · have f3 : ((c3 : Int) == 43) = true := by simp [h43]
              have HP := Lib.hid (hP.trans (by rw [drop_byte s k5 hk6, sgn_hit (Or.inl (by rw [hc3, h43]))]))
              clear h43 hP
              obtain ⟨k7, hk7⟩ : ∃ k7 : Nat, k7 = k5 + 1 := ⟨_, rfl⟩
              rw [← hk7] at HP hn3 hn4
              have hk7s : k7 ≤ s.size := by omega
              clear hk7
              go_wp2_with fail
              refine (digits_walk s (by omega) (k7) (by omega) _).mono ?_
              rintro e w9 ⟨⟨k9, rfl, hk9⟩, hb9⟩
              have hb09 := hb1.trans (hb9.mono hb1.size)
              have hv9 : ans = decide (k9 = s.size ∧ 1 ≤ k9 - (k7) ∧ k9 - (k7) ≤ 4) := by
                rw [HP.out]; unfold powD
                rw [drop_len]
                apply decide_eq_decide.2
                have := dl_drop s (k7) (by omega)
                constructor
                · intro ⟨q1, q2, q3⟩; omega
                · intro ⟨q1, q2, q3⟩; omega
              have hge : (k7) ≤ k9 ∧ k9 ≤ s.size := by have := dl_drop s (k7) (by omega); omega
              have hw9 : IntKind.i64.wrap ((k9 : Int) - ((k7 : Nat) : Int)) = ((k9 - (k7) : Nat) : Int) := by rw [Go.IntKind.wrap_i64]; omega
              have HG := Lib.hid hge
              clear hk9 hge
              obtain ⟨m9, hm9⟩ : ∃ m : Nat, m = k9 - (k7) := ⟨_, rfl⟩
              rw [← hm9] at hv9 hw9
              have hw8 : (k9 : Int) - ((k7 : Nat) : Int) = (m9 : Int) := by have := HG.out; omega
              have hmb : m9 ≤ 1000 := by have := HG.out; omega
              have HV := Lib.hid hv9
              clear hv9 hm9
              by_cases p1 : k9 = s.size
              · have q1 : ((k9 : Int) == (s.size : Int)) = true := by simp [p1]
                by_cases p2 : 1 ≤ m9
                · have q2 : (1 : Int) ≤ m9 := by omega
                  have q5 : decide ((1 : Int) ≤ m9) = true := by simp; omega
                  by_cases p3 : m9 ≤ 4
                  · have q3 : (m9 : Int) ≤ 4 := by omega
                    have q4 : decide ((m9 : Int) ≤ 4) = true := by simp; omega
                    have HA : Hid (ans = true) := Lib.hid (HV.out.trans (by simp [p1, p2, p3]))
                    clear p1 p2 p3
                    go_wp2_with fail
                    try rw [Exit.hop_ret]
                    go_ret
                    exact ⟨by rw [HA.out]; first | rfl | (congr 1), hb09⟩
                  · have q3 : ¬ (m9 : Int) ≤ 4 := by omega
                    have q4 : decide ((m9 : Int) ≤ 4) = false := by simp; omega
                    have HA : Hid (ans = false) := Lib.hid (HV.out.trans (by simp [p1, p2, p3]))
                    clear p1 p2 p3
                    go_wp2_with fail
                    try rw [Exit.hop_ret]
                    go_ret
                    exact ⟨by rw [HA.out]; first | rfl | (congr 1), hb09⟩
                · have q2 : ¬ (1 : Int) ≤ m9 := by omega
                  have q5 : decide ((1 : Int) ≤ m9) = false := by simp; omega
                  have HA : Hid (ans = false) := Lib.hid (HV.out.trans (by simp [p2]))
                  clear p1 p2
                  go_wp2_with fail
                  try rw [Exit.hop_ret]
                  go_ret
                  exact ⟨by rw [HA.out]; first | rfl | (congr 1), hb09⟩
              · have q1 : ((k9 : Int) == (s.size : Int)) = false := by simp; omega
                have HA : Hid (ans = false) := Lib.hid (HV.out.trans (by simp [p1]))
                clear p1
                go_wp2_with fail
                try rw [Exit.hop_ret]
                go_ret
                exact ⟨by rw [HA.out]; first | rfl | (congr 1), hb09⟩
            · have f3 : ((c3 : Int) == 43) = false := by simp; omega
              by_cases h45 : c3 = 45
              · have f4 : ((c3 : Int) == 45) = true := by simp [h45]
                have HP := Lib.hid (hP.trans (by rw [drop_byte s k5 hk6, sgn_hit (Or.inr (by rw [hc3, h45]))]))
                clear h43 h45 hP
                obtain ⟨k7, hk7⟩ : ∃ k7 : Nat, k7 = k5 + 1 := ⟨_, rfl⟩
                rw [← hk7] at HP hn3 hn4
                have hk7s : k7 ≤ s.size := by omega
                clear hk7
                go_wp2_with fail
                refine (digits_walk s (by omega) (k7) (by omega) _).mono ?_
                rintro e w9 ⟨⟨k9, rfl, hk9⟩, hb9⟩
                have hb09 := hb1.trans (hb9.mono hb1.size)
                have hv9 : ans = decide (k9 = s.size ∧ 1 ≤ k9 - (k7) ∧ k9 - (k7) ≤ 4) := by
                  rw [HP.out]; unfold powD
                  rw [drop_len]
                  apply decide_eq_decide.2
                  have := dl_drop s (k7) (by omega)
                  constructor
                  · intro ⟨q1, q2, q3⟩; omega
                  · intro ⟨q1, q2, q3⟩; omega
                have hge : (k7) ≤ k9 ∧ k9 ≤ s.size := by have := dl_drop s (k7) (by omega); omega
                have hw9 : IntKind.i64.wrap ((k9 : Int) - ((k7 : Nat) : Int)) = ((k9 - (k7) : Nat) : Int) := by rw [Go.IntKind.wrap_i64]; omega
                have HG := Lib.hid hge
                clear hk9 hge
                obtain ⟨m9, hm9⟩ : ∃ m : Nat, m = k9 - (k7) := ⟨_, rfl⟩
                rw [← hm9] at hv9 hw9
                have hw8 : (k9 : Int) - ((k7 : Nat) : Int) = (m9 : Int) := by have := HG.out; omega
                have hmb : m9 ≤ 1000 := by have := HG.out; omega
                have HV := Lib.hid hv9
                clear hv9 hm9
                by_cases p1 : k9 = s.size
                · have q1 : ((k9 : Int) == (s.size : Int)) = true := by simp [p1]
                  by_cases p2 : 1 ≤ m9
                  · have q2 : (1 : Int) ≤ m9 := by omega
                    have q5 : decide ((1 : Int) ≤ m9) = true := by simp; omega
                    by_cases p3 : m9 ≤ 4
                    · have q3 : (m9 : Int) ≤ 4 := by omega
                      have q4 : decide ((m9 : Int) ≤ 4) = true := by simp; omega
                      have HA : Hid (ans = true) := Lib.hid (HV.out.trans (by simp [p1, p2, p3]))
                      clear p1 p2 p3
                      go_wp2_with fail
                      try rw [Exit.hop_ret]
                      go_ret
                      exact ⟨by rw [HA.out]; first | rfl | (congr 1), hb09⟩
                    · have q3 : ¬ (m9 : Int) ≤ 4 := by omega
                      have q4 : decide ((m9 : Int) ≤ 4) = false := by simp; omega
                      have HA : Hid (ans = false) := Lib.hid (HV.out.trans (by simp [p1, p2, p3]))
                      clear p1 p2 p3
                      go_wp2_with fail
                      try rw [Exit.hop_ret]
                      go_ret
                      exact ⟨by rw [HA.out]; first | rfl | (congr 1), hb09⟩
                  · have q2 : ¬ (1 : Int) ≤ m9 := by omega
                    have q5 : decide ((1 : Int) ≤ m9) = false := by simp; omega
                    have HA : Hid (ans = false) := Lib.hid (HV.out.trans (by simp [p2]))
                    clear p1 p2
                    go_wp2_with fail
                    try rw [Exit.hop_ret]
                    go_ret
                    exact ⟨by rw [HA.out]; first | rfl | (congr 1), hb09⟩
                · have q1 : ((k9 : Int) == (s.size : Int)) = false := by simp; omega
                  have HA : Hid (ans = false) := Lib.hid (HV.out.trans (by simp [p1]))
                  clear p1
                  go_wp2_with fail
                  try rw [Exit.hop_ret]
                  go_ret
                  exact ⟨by rw [HA.out]; first | rfl | (congr 1), hb09⟩
              · have f4 : ((c3 : Int) == 45) = false := by simp; omega
                have HP : Hid (ans = powD (s.data.toList.drop k5)) := Lib.hid (hP.trans (by rw [drop_byte s k5 hk6, sgn_not (by rw [hc3]; omega)]))
                clear h43 h45 hP
                go_wp2_with fail
                refine (digits_walk s (by omega) (k5) (by omega) _).mono ?_
                rintro e w9 ⟨⟨k9, rfl, hk9⟩, hb9⟩
                have hb09 := hb1.trans (hb9.mono hb1.size)
                have hv9 : ans = decide (k9 = s.size ∧ 1 ≤ k9 - (k5) ∧ k9 - (k5) ≤ 4) := by
                  rw [HP.out]; unfold powD
                  rw [drop_len]
                  apply decide_eq_decide.2
                  have := dl_drop s (k5) (by omega)
                  constructor
                  · intro ⟨q1, q2, q3⟩; omega
                  · intro ⟨q1, q2, q3⟩; omega
                have hge : (k5) ≤ k9 ∧ k9 ≤ s.size := by have := dl_drop s (k5) (by omega); omega
                have hw9 : IntKind.i64.wrap ((k9 : Int) - ((k5 : Nat) : Int)) = ((k9 - (k5) : Nat) : Int) := by rw [Go.IntKind.wrap_i64]; omega
                have HG := Lib.hid hge
                clear hk9 hge
                obtain ⟨m9, hm9⟩ : ∃ m : Nat, m = k9 - (k5) := ⟨_, rfl⟩
                rw [← hm9] at hv9 hw9
                have hw8 : (k9 : Int) - ((k5 : Nat) : Int) = (m9 : Int) := by have := HG.out; omega
                have hmb : m9 ≤ 1000 := by have := HG.out; omega
                have HV := Lib.hid hv9
                clear hv9 hm9
                by_cases p1 : k9 = s.size
                · have q1 : ((k9 : Int) == (s.size : Int)) = true := by simp [p1]
                  by_cases p2 : 1 ≤ m9
                  · have q2 : (1 : Int) ≤ m9 := by omega
                    have q5 : decide ((1 : Int) ≤ m9) = true := by simp; omega
                    by_cases p3 : m9 ≤ 4
                    · have q3 : (m9 : Int) ≤ 4 := by omega
                      have q4 : decide ((m9 : Int) ≤ 4) = true := by simp; omega
                      have HA : Hid (ans = true) := Lib.hid (HV.out.trans (by simp [p1, p2, p3]))
                      clear p1 p2 p3
                      go_wp2_with fail
                      try rw [Exit.hop_ret]
                      go_ret
                      exact ⟨by rw [HA.out]; first | rfl | (congr 1), hb09⟩
                    · have q3 : ¬ (m9 : Int) ≤ 4 := by omega
                      have q4 : decide ((m9 : Int) ≤ 4) = false := by simp; omega
                      have HA : Hid (ans = false) := Lib.hid (HV.out.trans (by simp [p1, p2, p3]))
                      clear p1 p2 p3
                      go_wp2_with fail
                      try rw [Exit.hop_ret]
                      go_ret
                      exact ⟨by rw [HA.out]; first | rfl | (congr 1), hb09⟩
                  · have q2 : ¬ (1 : Int) ≤ m9 := by omega
                    have q5 : decide ((1 : Int) ≤ m9) = false := by simp; omega
                    have HA : Hid (ans = false) := Lib.hid (HV.out.trans (by simp [p2]))
                    clear p1 p2
                    go_wp2_with fail
                    try rw [Exit.hop_ret]
                    go_ret
                    exact ⟨by rw [HA.out]; first | rfl | (congr 1), hb09⟩
                · have q1 : ((k9 : Int) == (s.size : Int)) = false := by simp; omega
                  have HA : Hid (ans = false) := Lib.hid (HV.out.trans (by simp [p1]))
                  clear p1
                  go_wp2_with fail
                  try rw [Exit.hop_ret]
                  go_ret
                  exact ⟨by rw [HA.out]; first | rfl | (congr 1), hb09⟩
          · have hk6I : ¬ (k5 : Int) < s.size := by omega
            have HP : Hid (ans = powD (s.data.toList.drop k5)) := Lib.hid (hP.trans (by rw [drop_end s k5 (by omega)]; rfl))
            clear hP
            go_wp2_with fail
            refine (digits_walk s (by omega) (k5) (by omega) _).mono ?_
            rintro e w9 ⟨⟨k9, rfl, hk9⟩, hb9⟩
            have hb09 := hb1.trans (hb9.mono hb1.size)
            have hv9 : ans = decide (k9 = s.size ∧ 1 ≤ k9 - (k5) ∧ k9 - (k5) ≤ 4) := by
              rw [HP.out]; unfold powD
              rw [drop_len]
              apply decide_eq_decide.2
              have := dl_drop s (k5) (by omega)
              constructor
              · intro ⟨q1, q2, q3⟩; omega
              · intro ⟨q1, q2, q3⟩; omega
            have hge : (k5) ≤ k9 ∧ k9 ≤ s.size := by have := dl_drop s (k5) (by omega); omega
            have hw9 : IntKind.i64.wrap ((k9 : Int) - ((k5 : Nat) : Int)) = ((k9 - (k5) : Nat) : Int) := by rw [Go.IntKind.wrap_i64]; omega
            have HG := Lib.hid hge
            clear hk9 hge
            obtain ⟨m9, hm9⟩ : ∃ m : Nat, m = k9 - (k5) := ⟨_, rfl⟩
            rw [← hm9] at hv9 hw9
            have hw8 : (k9 : Int) - ((k5 : Nat) : Int) = (m9 : Int) := by have := HG.out; omega
            have hmb : m9 ≤ 1000 := by have := HG.out; omega
            have HV := Lib.hid hv9
            clear hv9 hm9
            by_cases p1 : k9 = s.size
            · have q1 : ((k9 : Int) == (s.size : Int)) = true := by simp [p1]
              by_cases p2 : 1 ≤ m9
              · have q2 : (1 : Int) ≤ m9 := by omega
                have q5 : decide ((1 : Int) ≤ m9) = true := by simp; omega
                by_cases p3 : m9 ≤ 4
                · have q3 : (m9 : Int) ≤ 4 := by omega
                  have q4 : decide ((m9 : Int) ≤ 4) = true := by simp; omega
                  have HA : Hid (ans = true) := Lib.hid (HV.out.trans (by simp [p1, p2, p3]))
                  clear p1 p2 p3
                  go_wp2_with fail
                  try rw [Exit.hop_ret]
                  go_ret
                  exact ⟨by rw [HA.out]; first | rfl | (congr 1), hb09⟩
                · have q3 : ¬ (m9 : Int) ≤ 4 := by omega
                  have q4 : decide ((m9 : Int) ≤ 4) = false := by simp; omega
                  have HA : Hid (ans = false) := Lib.hid (HV.out.trans (by simp [p1, p2, p3]))
                  clear p1 p2 p3
                  go_wp2_with fail
                  try rw [Exit.hop_ret]
                  go_ret
                  exact ⟨by rw [HA.out]; first | rfl | (congr 1), hb09⟩
              · have q2 : ¬ (1 : Int) ≤ m9 := by omega
                have q5 : decide ((1 : Int) ≤ m9) = false := by simp; omega
                have HA : Hid (ans = false) := Lib.hid (HV.out.trans (by simp [p2]))
                clear p1 p2
                go_wp2_with fail
                try rw [Exit.hop_ret]
                go_ret
                exact ⟨by rw [HA.out]; first | rfl | (congr 1), hb09⟩
            · have q1 : ((k9 : Int) == (s.size : Int)) = false := by simp; omega
              have HA : Hid (ans = false) := Lib.hid (HV.out.trans (by simp [p1]))
              clear p1
              go_wp2_with fail
              try rw [Exit.hop_ret]
              go_ret
              exact ⟨by rw [HA.out]; first | rfl | (congr 1), hb09⟩
        · have f2 : ((c2 : Int) != 101) = true := by simp; omega
          have HA : Hid (ans = false) := Lib.hid (by rw [HPW.out, drop_byte s k1 hke, powL_not (by rw [hc2]; exact h101)])
          clear h101
          go_wp2_with fail
          go_step3
          refine Exit.hop_goto _ _ rfl ?_
          go_wp2_with fail
          try rw [Exit.hop_ret]
          go_ret
          exact ⟨by rw [HA.out]; rfl, hb1⟩
      · have hkI : ¬ (k1 : Int) < s.size := by omega
        have f1 : ((k1 : Int) == (s.size : Int)) = true := by simp; omega
        have HA : Hid (ans = true) := Lib.hid (by rw [HPW.out, drop_end s k1 (by omega)]; rfl)
        go_wp2_with fail
        try rw [Exit.hop_ret]
        go_ret
        exact ⟨by rw [HA.out]; first | rfl | (congr 1), hb1⟩
set_option maxRecDepth 100000 in
set_option maxHeartbeats 4000000 in
theorem formed_neg (s : ByteArray) (hs : s.size ≤ 1000) (ans : Bool) (h0 : 0 < s.size) (h45 : s[0].toNat = 45) (hM : ans = formM (s.data.toList.drop 1)) (w : World) : Calls Tryz.prog 23 #[.string s] w fun e w' => e = .returned (.bool ans) ∧ Below w.heap.size w w' := by
  have e0 : ((s[0].toNat : Nat) : Int) = 45 := by rw [h45]; rfl
  have h0I : (0 : Int) < s.size := by omega
  have HM := Lib.hid hM
  clear hM h45
  go_enter Tryz.func23, Tryz.ntmps23
  go_wp2_with fail
  refine wp_scope_hop 3 ?_
  go_wp2_with fail
  refine (digits_walk s (by omega) 1 (by omega) _).mono ?_
  rintro e w1 ⟨⟨k1, rfl, hk1⟩, hb1⟩
  have hd1 := dl_drop s 1 (by omega)
  by_cases hz : dl (s.data.toList.drop 1) = 0
  · have f5 : ((k1 : Int) == 1) = true := by simp; omega
    have HA : Hid (ans = false) := Lib.hid (by rw [HM.out]; unfold formM; rw [if_pos hz])
    have hk1c : k1 = 1 := by omega
    clear hz hk1 hd1
    subst hk1c
    go_wp2_with fail
    go_step3
    refine Exit.hop_goto _ _ rfl ?_
    go_wp2_with fail
    try rw [Exit.hop_ret]
    go_ret
    exact ⟨by rw [HA.out]; rfl, hb1⟩
  · have f5 : ((k1 : Int) == 1) = false := by simp; omega
    have hT : ans = formT (s.data.toList.drop k1) := by rw [HM.out]; unfold formM; rw [if_neg hz, List.drop_drop, hk1]
    have hk1s : k1 ≤ s.size := by omega
    clear hz hk1 hd1 HM
    by_cases hk2 : k1 < s.size
    · have hk2I : (k1 : Int) < s.size := by omega
      obtain ⟨c1, hc1⟩ : ∃ c : Nat, (s[k1]).toNat = c := ⟨_, rfl⟩
      have ec1 : ((s[k1].toNat : Nat) : Int) = c1 := by rw [hc1]
      by_cases h46 : c1 = 46
      · have f6 : ((c1 : Int) == 46) = true := by simp [h46]
        have hT2 : ans = if dl (s.data.toList.drop (k1 + 1)) = 0 then false else powL ((s.data.toList.drop (k1 + 1)).drop (dl (s.data.toList.drop (k1 + 1)))) := by rw [hT, drop_byte s k1 hk2, formT_point (by rw [hc1, h46])]
        have hn1 : IntKind.i64.wrap ((k1 : Int) + 1) = ((k1 + 1 : Nat) : Int) := by rw [Go.IntKind.wrap_i64]; omega
        have hn2 : (k1 : Int) + 1 = ((k1 + 1 : Nat) : Int) := by omega
        clear hT h46
        obtain ⟨kp, hkp⟩ : ∃ kp : Nat, kp = k1 + 1 := ⟨_, rfl⟩
        rw [← hkp] at hT2 hn1 hn2
        have hkps : kp ≤ s.size := by omega
        have HT2 := Lib.hid hT2
        clear hT2 hkp
        go_wp2_with fail
        go_step3
        refine Exit.hop_goto _ _ rfl ?_
        go_wp2_with fail
        refine (digits_walk s (by omega) kp (by omega) _).mono ?_
        rintro e w2 ⟨⟨k3, rfl, hk3⟩, hb2⟩
        have hb02 := hb1.trans (hb2.mono hb1.size)
        have hd3 := dl_drop s kp (by omega)
        by_cases hz2 : dl (s.data.toList.drop kp) = 0
        · have f7 : ((k3 : Int) == (kp : Int)) = true := by simp; omega
          have HA : Hid (ans = false) := Lib.hid (by rw [HT2.out, if_pos hz2])
          have hk3c : k3 = kp := by omega
          clear hz2 hk3 hd3
          subst hk3c
          go_wp2_with fail
          go_step3
          refine Exit.hop_goto _ _ rfl ?_
          go_wp2_with fail
          try rw [Exit.hop_ret]
          go_ret
          exact ⟨by rw [HA.out]; rfl, hb02⟩
        · have f7 : ((k3 : Int) == (kp : Int)) = false := by simp; omega
          have HPW : Hid (ans = powL (s.data.toList.drop k3)) := Lib.hid (by rw [HT2.out, if_neg hz2, List.drop_drop, hk3])
          have hk3s : k3 ≤ s.size := by omega
          clear hz2 hk3 hd3 HT2
          go_wp2_with fail
          go_step3
          by_cases hke : k3 < s.size
          · have hkI : (k3 : Int) < s.size := by omega
            have f1 : ((k3 : Int) == (s.size : Int)) = false := by simp; omega
            obtain ⟨c2, hc2⟩ : ∃ c : Nat, (s[k3]).toNat = c := ⟨_, rfl⟩
            have ec2 : ((s[k3].toNat : Nat) : Int) = c2 := by rw [hc2]
            by_cases h101 : c2 = 101
            · have f2 : ((c2 : Int) != 101) = false := by simp [h101]
              have hP : ans = powD (sgn (s.data.toList.drop (k3 + 1))) := by rw [HPW.out, drop_byte s k3 hke, powL_hit (by rw [hc2, h101])]
              have hn1 : IntKind.i64.wrap ((k3 : Int) + 1) = ((k3 + 1 : Nat) : Int) := by rw [Go.IntKind.wrap_i64]; omega
              have hn2 : (k3 : Int) + 1 = ((k3 + 1 : Nat) : Int) := by omega
              obtain ⟨k5, hk5⟩ : ∃ k5 : Nat, k5 = k3 + 1 := ⟨_, rfl⟩
              rw [← hk5] at hP hn1 hn2
              have hk5s : k5 ≤ s.size := by omega
              clear h101 hk5
              by_cases hk6 : k5 < s.size
              · have hk6I : (k5 : Int) < s.size := by omega
                have hk6J : ((k5 : Int)).toNat < s.size := by omega
                obtain ⟨c3, hc3⟩ : ∃ c : Nat, (s[k5]).toNat = c := ⟨_, rfl⟩
                have ec3 : ((s[k5].toNat : Nat) : Int) = c3 := by rw [hc3]
                have hn3 : IntKind.i64.wrap ((k5 : Int) + 1) = ((k5 + 1 : Nat) : Int) := by rw [Go.IntKind.wrap_i64]; omega
                have hn4 : (k5 : Int) + 1 = ((k5 + 1 : Nat) : Int) := by omega
                by_cases h43 : c3 = 43
                · have f3 : ((c3 : Int) == 43) = true := by simp [h43]
                  have HP := Lib.hid (hP.trans (by rw [drop_byte s k5 hk6, sgn_hit (Or.inl (by rw [hc3, h43]))]))
                  clear h43 hP
                  obtain ⟨k7, hk7⟩ : ∃ k7 : Nat, k7 = k5 + 1 := ⟨_, rfl⟩
                  rw [← hk7] at HP hn3 hn4
                  have hk7s : k7 ≤ s.size := by omega
                  clear hk7
                  go_wp2_with fail
                  refine (digits_walk s (by omega) (k7) (by omega) _).mono ?_
                  rintro e w9 ⟨⟨k9, rfl, hk9⟩, hb9⟩
                  have hb09 := hb02.trans (hb9.mono hb02.size)
                  have hv9 : ans = decide (k9 = s.size ∧ 1 ≤ k9 - (k7) ∧ k9 - (k7) ≤ 4) := by
                    rw [HP.out]; unfold powD
                    rw [drop_len]
                    apply decide_eq_decide.2
                    have := dl_drop s (k7) (by omega)
                    constructor
                    · intro ⟨q1, q2, q3⟩; omega
                    · intro ⟨q1, q2, q3⟩; omega
                  have hge : (k7) ≤ k9 ∧ k9 ≤ s.size := by have := dl_drop s (k7) (by omega); omega
                  have hw9 : IntKind.i64.wrap ((k9 : Int) - ((k7 : Nat) : Int)) = ((k9 - (k7) : Nat) : Int) := by rw [Go.IntKind.wrap_i64]; omega
                  have HG := Lib.hid hge
                  clear hk9 hge
                  obtain ⟨m9, hm9⟩ : ∃ m : Nat, m = k9 - (k7) := ⟨_, rfl⟩
                  rw [← hm9] at hv9 hw9
                  have hw8 : (k9 : Int) - ((k7 : Nat) : Int) = (m9 : Int) := by have := HG.out; omega
                  have hmb : m9 ≤ 1000 := by have := HG.out; omega
                  have HV := Lib.hid hv9
                  clear hv9 hm9
                  by_cases p1 : k9 = s.size
                  · have q1 : ((k9 : Int) == (s.size : Int)) = true := by simp [p1]
                    by_cases p2 : 1 ≤ m9
                    · have q2 : (1 : Int) ≤ m9 := by omega
                      have q5 : decide ((1 : Int) ≤ m9) = true := by simp; omega
                      by_cases p3 : m9 ≤ 4
                      · have q3 : (m9 : Int) ≤ 4 := by omega
                        have q4 : decide ((m9 : Int) ≤ 4) = true := by simp; omega
                        have HA : Hid (ans = true) := Lib.hid (HV.out.trans (by simp [p1, p2, p3]))
                        clear p1 p2 p3
                        go_wp2_with fail
                        try rw [Exit.hop_ret]
                        go_ret
                        exact ⟨by rw [HA.out]; first | rfl | (congr 1), hb09⟩
                      · have q3 : ¬ (m9 : Int) ≤ 4 := by omega
                        have q4 : decide ((m9 : Int) ≤ 4) = false := by simp; omega
                        have HA : Hid (ans = false) := Lib.hid (HV.out.trans (by simp [p1, p2, p3]))
                        clear p1 p2 p3
                        go_wp2_with fail
                        try rw [Exit.hop_ret]
                        go_ret
                        exact ⟨by rw [HA.out]; first | rfl | (congr 1), hb09⟩
                    · have q2 : ¬ (1 : Int) ≤ m9 := by omega
                      have q5 : decide ((1 : Int) ≤ m9) = false := by simp; omega
                      have HA : Hid (ans = false) := Lib.hid (HV.out.trans (by simp [p2]))
                      clear p1 p2
                      go_wp2_with fail
                      try rw [Exit.hop_ret]
                      go_ret
                      exact ⟨by rw [HA.out]; first | rfl | (congr 1), hb09⟩
                  · have q1 : ((k9 : Int) == (s.size : Int)) = false := by simp; omega
                    have HA : Hid (ans = false) := Lib.hid (HV.out.trans (by simp [p1]))
                    clear p1
                    go_wp2_with fail
                    try rw [Exit.hop_ret]
                    go_ret
                    exact ⟨by rw [HA.out]; first | rfl | (congr 1), hb09⟩
                · have f3 : ((c3 : Int) == 43) = false := by simp; omega
                  by_cases h45 : c3 = 45
                  · have f4 : ((c3 : Int) == 45) = true := by simp [h45]
                    have HP := Lib.hid (hP.trans (by rw [drop_byte s k5 hk6, sgn_hit (Or.inr (by rw [hc3, h45]))]))
                    clear h43 h45 hP
                    obtain ⟨k7, hk7⟩ : ∃ k7 : Nat, k7 = k5 + 1 := ⟨_, rfl⟩
                    rw [← hk7] at HP hn3 hn4
                    have hk7s : k7 ≤ s.size := by omega
                    clear hk7
                    go_wp2_with fail
                    refine (digits_walk s (by omega) (k7) (by omega) _).mono ?_
                    rintro e w9 ⟨⟨k9, rfl, hk9⟩, hb9⟩
                    have hb09 := hb02.trans (hb9.mono hb02.size)
                    have hv9 : ans = decide (k9 = s.size ∧ 1 ≤ k9 - (k7) ∧ k9 - (k7) ≤ 4) := by
                      rw [HP.out]; unfold powD
                      rw [drop_len]
                      apply decide_eq_decide.2
                      have := dl_drop s (k7) (by omega)
                      constructor
                      · intro ⟨q1, q2, q3⟩; omega
                      · intro ⟨q1, q2, q3⟩; omega
                    have hge : (k7) ≤ k9 ∧ k9 ≤ s.size := by have := dl_drop s (k7) (by omega); omega
                    have hw9 : IntKind.i64.wrap ((k9 : Int) - ((k7 : Nat) : Int)) = ((k9 - (k7) : Nat) : Int) := by rw [Go.IntKind.wrap_i64]; omega
                    have HG := Lib.hid hge
                    clear hk9 hge
                    obtain ⟨m9, hm9⟩ : ∃ m : Nat, m = k9 - (k7) := ⟨_, rfl⟩
                    rw [← hm9] at hv9 hw9
                    have hw8 : (k9 : Int) - ((k7 : Nat) : Int) = (m9 : Int) := by have := HG.out; omega
                    have hmb : m9 ≤ 1000 := by have := HG.out; omega
                    have HV := Lib.hid hv9
                    clear hv9 hm9
                    by_cases p1 : k9 = s.size
                    · have q1 : ((k9 : Int) == (s.size : Int)) = true := by simp [p1]
                      by_cases p2 : 1 ≤ m9
                      · have q2 : (1 : Int) ≤ m9 := by omega
                        have q5 : decide ((1 : Int) ≤ m9) = true := by simp; omega
                        by_cases p3 : m9 ≤ 4
                        · have q3 : (m9 : Int) ≤ 4 := by omega
                          have q4 : decide ((m9 : Int) ≤ 4) = true := by simp; omega
                          have HA : Hid (ans = true) := Lib.hid (HV.out.trans (by simp [p1, p2, p3]))
                          clear p1 p2 p3
                          go_wp2_with fail
                          try rw [Exit.hop_ret]
                          go_ret
                          exact ⟨by rw [HA.out]; first | rfl | (congr 1), hb09⟩
                        · have q3 : ¬ (m9 : Int) ≤ 4 := by omega
                          have q4 : decide ((m9 : Int) ≤ 4) = false := by simp; omega
                          have HA : Hid (ans = false) := Lib.hid (HV.out.trans (by simp [p1, p2, p3]))
                          clear p1 p2 p3
                          go_wp2_with fail
                          try rw [Exit.hop_ret]
                          go_ret
                          exact ⟨by rw [HA.out]; first | rfl | (congr 1), hb09⟩
                      · have q2 : ¬ (1 : Int) ≤ m9 := by omega
                        have q5 : decide ((1 : Int) ≤ m9) = false := by simp; omega
                        have HA : Hid (ans = false) := Lib.hid (HV.out.trans (by simp [p2]))
                        clear p1 p2
                        go_wp2_with fail
                        try rw [Exit.hop_ret]
                        go_ret
                        exact ⟨by rw [HA.out]; first | rfl | (congr 1), hb09⟩
                    · have q1 : ((k9 : Int) == (s.size : Int)) = false := by simp; omega
                      have HA : Hid (ans = false) := Lib.hid (HV.out.trans (by simp [p1]))
                      clear p1
                      go_wp2_with fail
                      try rw [Exit.hop_ret]
                      go_ret
                      exact ⟨by rw [HA.out]; first | rfl | (congr 1), hb09⟩
                  · have f4 : ((c3 : Int) == 45) = false := by simp; omega
                    have HP : Hid (ans = powD (s.data.toList.drop k5)) := Lib.hid (hP.trans (by rw [drop_byte s k5 hk6, sgn_not (by rw [hc3]; omega)]))
                    clear h43 h45 hP
                    go_wp2_with fail
                    refine (digits_walk s (by omega) (k5) (by omega) _).mono ?_
                    rintro e w9 ⟨⟨k9, rfl, hk9⟩, hb9⟩
                    have hb09 := hb02.trans (hb9.mono hb02.size)
                    have hv9 : ans = decide (k9 = s.size ∧ 1 ≤ k9 - (k5) ∧ k9 - (k5) ≤ 4) := by
                      rw [HP.out]; unfold powD
                      rw [drop_len]
                      apply decide_eq_decide.2
                      have := dl_drop s (k5) (by omega)
                      constructor
                      · intro ⟨q1, q2, q3⟩; omega
                      · intro ⟨q1, q2, q3⟩; omega
                    have hge : (k5) ≤ k9 ∧ k9 ≤ s.size := by have := dl_drop s (k5) (by omega); omega
                    have hw9 : IntKind.i64.wrap ((k9 : Int) - ((k5 : Nat) : Int)) = ((k9 - (k5) : Nat) : Int) := by rw [Go.IntKind.wrap_i64]; omega
                    have HG := Lib.hid hge
                    clear hk9 hge
                    obtain ⟨m9, hm9⟩ : ∃ m : Nat, m = k9 - (k5) := ⟨_, rfl⟩
                    rw [← hm9] at hv9 hw9
                    have hw8 : (k9 : Int) - ((k5 : Nat) : Int) = (m9 : Int) := by have := HG.out; omega
                    have hmb : m9 ≤ 1000 := by have := HG.out; omega
                    have HV := Lib.hid hv9
                    clear hv9 hm9
                    by_cases p1 : k9 = s.size
                    · have q1 : ((k9 : Int) == (s.size : Int)) = true := by simp [p1]
                      by_cases p2 : 1 ≤ m9
                      · have q2 : (1 : Int) ≤ m9 := by omega
                        have q5 : decide ((1 : Int) ≤ m9) = true := by simp; omega
                        by_cases p3 : m9 ≤ 4
                        · have q3 : (m9 : Int) ≤ 4 := by omega
                          have q4 : decide ((m9 : Int) ≤ 4) = true := by simp; omega
                          have HA : Hid (ans = true) := Lib.hid (HV.out.trans (by simp [p1, p2, p3]))
                          clear p1 p2 p3
                          go_wp2_with fail
                          try rw [Exit.hop_ret]
                          go_ret
                          exact ⟨by rw [HA.out]; first | rfl | (congr 1), hb09⟩
                        · have q3 : ¬ (m9 : Int) ≤ 4 := by omega
                          have q4 : decide ((m9 : Int) ≤ 4) = false := by simp; omega
                          have HA : Hid (ans = false) := Lib.hid (HV.out.trans (by simp [p1, p2, p3]))
                          clear p1 p2 p3
                          go_wp2_with fail
                          try rw [Exit.hop_ret]
                          go_ret
                          exact ⟨by rw [HA.out]; first | rfl | (congr 1), hb09⟩
                      · have q2 : ¬ (1 : Int) ≤ m9 := by omega
                        have q5 : decide ((1 : Int) ≤ m9) = false := by simp; omega
                        have HA : Hid (ans = false) := Lib.hid (HV.out.trans (by simp [p2]))
                        clear p1 p2
                        go_wp2_with fail
                        try rw [Exit.hop_ret]
                        go_ret
                        exact ⟨by rw [HA.out]; first | rfl | (congr 1), hb09⟩
                    · have q1 : ((k9 : Int) == (s.size : Int)) = false := by simp; omega
                      have HA : Hid (ans = false) := Lib.hid (HV.out.trans (by simp [p1]))
                      clear p1
                      go_wp2_with fail
                      try rw [Exit.hop_ret]
                      go_ret
                      exact ⟨by rw [HA.out]; first | rfl | (congr 1), hb09⟩
              · have hk6I : ¬ (k5 : Int) < s.size := by omega
                have HP : Hid (ans = powD (s.data.toList.drop k5)) := Lib.hid (hP.trans (by rw [drop_end s k5 (by omega)]; rfl))
                clear hP
                go_wp2_with fail
                refine (digits_walk s (by omega) (k5) (by omega) _).mono ?_
                rintro e w9 ⟨⟨k9, rfl, hk9⟩, hb9⟩
                have hb09 := hb02.trans (hb9.mono hb02.size)
                have hv9 : ans = decide (k9 = s.size ∧ 1 ≤ k9 - (k5) ∧ k9 - (k5) ≤ 4) := by
                  rw [HP.out]; unfold powD
                  rw [drop_len]
                  apply decide_eq_decide.2
                  have := dl_drop s (k5) (by omega)
                  constructor
                  · intro ⟨q1, q2, q3⟩; omega
                  · intro ⟨q1, q2, q3⟩; omega
                have hge : (k5) ≤ k9 ∧ k9 ≤ s.size := by have := dl_drop s (k5) (by omega); omega
                have hw9 : IntKind.i64.wrap ((k9 : Int) - ((k5 : Nat) : Int)) = ((k9 - (k5) : Nat) : Int) := by rw [Go.IntKind.wrap_i64]; omega
                have HG := Lib.hid hge
                clear hk9 hge
                obtain ⟨m9, hm9⟩ : ∃ m : Nat, m = k9 - (k5) := ⟨_, rfl⟩
                rw [← hm9] at hv9 hw9
                have hw8 : (k9 : Int) - ((k5 : Nat) : Int) = (m9 : Int) := by have := HG.out; omega
                have hmb : m9 ≤ 1000 := by have := HG.out; omega
                have HV := Lib.hid hv9
                clear hv9 hm9
                by_cases p1 : k9 = s.size
                · have q1 : ((k9 : Int) == (s.size : Int)) = true := by simp [p1]
                  by_cases p2 : 1 ≤ m9
                  · have q2 : (1 : Int) ≤ m9 := by omega
                    have q5 : decide ((1 : Int) ≤ m9) = true := by simp; omega
                    by_cases p3 : m9 ≤ 4
                    · have q3 : (m9 : Int) ≤ 4 := by omega
                      have q4 : decide ((m9 : Int) ≤ 4) = true := by simp; omega
                      have HA : Hid (ans = true) := Lib.hid (HV.out.trans (by simp [p1, p2, p3]))
                      clear p1 p2 p3
                      go_wp2_with fail
                      try rw [Exit.hop_ret]
                      go_ret
                      exact ⟨by rw [HA.out]; first | rfl | (congr 1), hb09⟩
                    · have q3 : ¬ (m9 : Int) ≤ 4 := by omega
                      have q4 : decide ((m9 : Int) ≤ 4) = false := by simp; omega
                      have HA : Hid (ans = false) := Lib.hid (HV.out.trans (by simp [p1, p2, p3]))
                      clear p1 p2 p3
                      go_wp2_with fail
                      try rw [Exit.hop_ret]
                      go_ret
                      exact ⟨by rw [HA.out]; first | rfl | (congr 1), hb09⟩
                  · have q2 : ¬ (1 : Int) ≤ m9 := by omega
                    have q5 : decide ((1 : Int) ≤ m9) = false := by simp; omega
                    have HA : Hid (ans = false) := Lib.hid (HV.out.trans (by simp [p2]))
                    clear p1 p2
                    go_wp2_with fail
                    try rw [Exit.hop_ret]
                    go_ret
                    exact ⟨by rw [HA.out]; first | rfl | (congr 1), hb09⟩
                · have q1 : ((k9 : Int) == (s.size : Int)) = false := by simp; omega
                  have HA : Hid (ans = false) := Lib.hid (HV.out.trans (by simp [p1]))
                  clear p1
                  go_wp2_with fail
                  try rw [Exit.hop_ret]
                  go_ret
                  exact ⟨by rw [HA.out]; first | rfl | (congr 1), hb09⟩
            · have f2 : ((c2 : Int) != 101) = true := by simp; omega
              have HA : Hid (ans = false) := Lib.hid (by rw [HPW.out, drop_byte s k3 hke, powL_not (by rw [hc2]; exact h101)])
              clear h101
              go_wp2_with fail
              go_step3
              refine Exit.hop_goto _ _ rfl ?_
              go_wp2_with fail
              try rw [Exit.hop_ret]
              go_ret
              exact ⟨by rw [HA.out]; rfl, hb02⟩
          · have hkI : ¬ (k3 : Int) < s.size := by omega
            have f1 : ((k3 : Int) == (s.size : Int)) = true := by simp; omega
            have HA : Hid (ans = true) := Lib.hid (by rw [HPW.out, drop_end s k3 (by omega)]; rfl)
            go_wp2_with fail
            try rw [Exit.hop_ret]
            go_ret
            exact ⟨by rw [HA.out]; first | rfl | (congr 1), hb02⟩
      · have f6 : ((c1 : Int) == 46) = false := by simp; omega
        have HPW : Hid (ans = powL (s.data.toList.drop k1)) := Lib.hid (by rw [hT, drop_byte s k1 hk2, formT_not (by rw [hc1]; exact h46)])
        clear hT h46
        go_wp2_with fail
        go_step3
        refine Exit.hop_goto _ _ rfl ?_
        by_cases hke : k1 < s.size
        · have hkI : (k1 : Int) < s.size := by omega
          have f1 : ((k1 : Int) == (s.size : Int)) = false := by simp; omega
          obtain ⟨c2, hc2⟩ : ∃ c : Nat, (s[k1]).toNat = c := ⟨_, rfl⟩
          have ec2 : ((s[k1].toNat : Nat) : Int) = c2 := by rw [hc2]
          by_cases h101 : c2 = 101
          · have f2 : ((c2 : Int) != 101) = false := by simp [h101]
            have hP : ans = powD (sgn (s.data.toList.drop (k1 + 1))) := by rw [HPW.out, drop_byte s k1 hke, powL_hit (by rw [hc2, h101])]
            have hn1 : IntKind.i64.wrap ((k1 : Int) + 1) = ((k1 + 1 : Nat) : Int) := by rw [Go.IntKind.wrap_i64]; omega
            have hn2 : (k1 : Int) + 1 = ((k1 + 1 : Nat) : Int) := by omega
            obtain ⟨k5, hk5⟩ : ∃ k5 : Nat, k5 = k1 + 1 := ⟨_, rfl⟩
            rw [← hk5] at hP hn1 hn2
            have hk5s : k5 ≤ s.size := by omega
            clear h101 hk5
            by_cases hk6 : k5 < s.size
            · have hk6I : (k5 : Int) < s.size := by omega
              have hk6J : ((k5 : Int)).toNat < s.size := by omega
              obtain ⟨c3, hc3⟩ : ∃ c : Nat, (s[k5]).toNat = c := ⟨_, rfl⟩
              have ec3 : ((s[k5].toNat : Nat) : Int) = c3 := by rw [hc3]
              have hn3 : IntKind.i64.wrap ((k5 : Int) + 1) = ((k5 + 1 : Nat) : Int) := by rw [Go.IntKind.wrap_i64]; omega
              have hn4 : (k5 : Int) + 1 = ((k5 + 1 : Nat) : Int) := by omega
              by_cases h43 : c3 = 43
              · have f3 : ((c3 : Int) == 43) = true := by simp [h43]
                have HP := Lib.hid (hP.trans (by rw [drop_byte s k5 hk6, sgn_hit (Or.inl (by rw [hc3, h43]))]))
                clear h43 hP
                obtain ⟨k7, hk7⟩ : ∃ k7 : Nat, k7 = k5 + 1 := ⟨_, rfl⟩
                rw [← hk7] at HP hn3 hn4
                have hk7s : k7 ≤ s.size := by omega
                clear hk7
                go_wp2_with fail
                refine (digits_walk s (by omega) (k7) (by omega) _).mono ?_
                rintro e w9 ⟨⟨k9, rfl, hk9⟩, hb9⟩
                have hb09 := hb1.trans (hb9.mono hb1.size)
                have hv9 : ans = decide (k9 = s.size ∧ 1 ≤ k9 - (k7) ∧ k9 - (k7) ≤ 4) := by
                  rw [HP.out]; unfold powD
                  rw [drop_len]
                  apply decide_eq_decide.2
                  have := dl_drop s (k7) (by omega)
                  constructor
                  · intro ⟨q1, q2, q3⟩; omega
                  · intro ⟨q1, q2, q3⟩; omega
                have hge : (k7) ≤ k9 ∧ k9 ≤ s.size := by have := dl_drop s (k7) (by omega); omega
                have hw9 : IntKind.i64.wrap ((k9 : Int) - ((k7 : Nat) : Int)) = ((k9 - (k7) : Nat) : Int) := by rw [Go.IntKind.wrap_i64]; omega
                have HG := Lib.hid hge
                clear hk9 hge
                obtain ⟨m9, hm9⟩ : ∃ m : Nat, m = k9 - (k7) := ⟨_, rfl⟩
                rw [← hm9] at hv9 hw9
                have hw8 : (k9 : Int) - ((k7 : Nat) : Int) = (m9 : Int) := by have := HG.out; omega
                have hmb : m9 ≤ 1000 := by have := HG.out; omega
                have HV := Lib.hid hv9
                clear hv9 hm9
                by_cases p1 : k9 = s.size
                · have q1 : ((k9 : Int) == (s.size : Int)) = true := by simp [p1]
                  by_cases p2 : 1 ≤ m9
                  · have q2 : (1 : Int) ≤ m9 := by omega
                    have q5 : decide ((1 : Int) ≤ m9) = true := by simp; omega
                    by_cases p3 : m9 ≤ 4
                    · have q3 : (m9 : Int) ≤ 4 := by omega
                      have q4 : decide ((m9 : Int) ≤ 4) = true := by simp; omega
                      have HA : Hid (ans = true) := Lib.hid (HV.out.trans (by simp [p1, p2, p3]))
                      clear p1 p2 p3
                      go_wp2_with fail
                      try rw [Exit.hop_ret]
                      go_ret
                      exact ⟨by rw [HA.out]; first | rfl | (congr 1), hb09⟩
                    · have q3 : ¬ (m9 : Int) ≤ 4 := by omega
                      have q4 : decide ((m9 : Int) ≤ 4) = false := by simp; omega
                      have HA : Hid (ans = false) := Lib.hid (HV.out.trans (by simp [p1, p2, p3]))
                      clear p1 p2 p3
                      go_wp2_with fail
                      try rw [Exit.hop_ret]
                      go_ret
                      exact ⟨by rw [HA.out]; first | rfl | (congr 1), hb09⟩
                  · have q2 : ¬ (1 : Int) ≤ m9 := by omega
                    have q5 : decide ((1 : Int) ≤ m9) = false := by simp; omega
                    have HA : Hid (ans = false) := Lib.hid (HV.out.trans (by simp [p2]))
                    clear p1 p2
                    go_wp2_with fail
                    try rw [Exit.hop_ret]
                    go_ret
                    exact ⟨by rw [HA.out]; first | rfl | (congr 1), hb09⟩
                · have q1 : ((k9 : Int) == (s.size : Int)) = false := by simp; omega
                  have HA : Hid (ans = false) := Lib.hid (HV.out.trans (by simp [p1]))
                  clear p1
                  go_wp2_with fail
                  try rw [Exit.hop_ret]
                  go_ret
                  exact ⟨by rw [HA.out]; first | rfl | (congr 1), hb09⟩
              · have f3 : ((c3 : Int) == 43) = false := by simp; omega
                by_cases h45 : c3 = 45
                · have f4 : ((c3 : Int) == 45) = true := by simp [h45]
                  have HP := Lib.hid (hP.trans (by rw [drop_byte s k5 hk6, sgn_hit (Or.inr (by rw [hc3, h45]))]))
                  clear h43 h45 hP
                  obtain ⟨k7, hk7⟩ : ∃ k7 : Nat, k7 = k5 + 1 := ⟨_, rfl⟩
                  rw [← hk7] at HP hn3 hn4
                  have hk7s : k7 ≤ s.size := by omega
                  clear hk7
                  go_wp2_with fail
                  refine (digits_walk s (by omega) (k7) (by omega) _).mono ?_
                  rintro e w9 ⟨⟨k9, rfl, hk9⟩, hb9⟩
                  have hb09 := hb1.trans (hb9.mono hb1.size)
                  have hv9 : ans = decide (k9 = s.size ∧ 1 ≤ k9 - (k7) ∧ k9 - (k7) ≤ 4) := by
                    rw [HP.out]; unfold powD
                    rw [drop_len]
                    apply decide_eq_decide.2
                    have := dl_drop s (k7) (by omega)
                    constructor
                    · intro ⟨q1, q2, q3⟩; omega
                    · intro ⟨q1, q2, q3⟩; omega
                  have hge : (k7) ≤ k9 ∧ k9 ≤ s.size := by have := dl_drop s (k7) (by omega); omega
                  have hw9 : IntKind.i64.wrap ((k9 : Int) - ((k7 : Nat) : Int)) = ((k9 - (k7) : Nat) : Int) := by rw [Go.IntKind.wrap_i64]; omega
                  have HG := Lib.hid hge
                  clear hk9 hge
                  obtain ⟨m9, hm9⟩ : ∃ m : Nat, m = k9 - (k7) := ⟨_, rfl⟩
                  rw [← hm9] at hv9 hw9
                  have hw8 : (k9 : Int) - ((k7 : Nat) : Int) = (m9 : Int) := by have := HG.out; omega
                  have hmb : m9 ≤ 1000 := by have := HG.out; omega
                  have HV := Lib.hid hv9
                  clear hv9 hm9
                  by_cases p1 : k9 = s.size
                  · have q1 : ((k9 : Int) == (s.size : Int)) = true := by simp [p1]
                    by_cases p2 : 1 ≤ m9
                    · have q2 : (1 : Int) ≤ m9 := by omega
                      have q5 : decide ((1 : Int) ≤ m9) = true := by simp; omega
                      by_cases p3 : m9 ≤ 4
                      · have q3 : (m9 : Int) ≤ 4 := by omega
                        have q4 : decide ((m9 : Int) ≤ 4) = true := by simp; omega
                        have HA : Hid (ans = true) := Lib.hid (HV.out.trans (by simp [p1, p2, p3]))
                        clear p1 p2 p3
                        go_wp2_with fail
                        try rw [Exit.hop_ret]
                        go_ret
                        exact ⟨by rw [HA.out]; first | rfl | (congr 1), hb09⟩
                      · have q3 : ¬ (m9 : Int) ≤ 4 := by omega
                        have q4 : decide ((m9 : Int) ≤ 4) = false := by simp; omega
                        have HA : Hid (ans = false) := Lib.hid (HV.out.trans (by simp [p1, p2, p3]))
                        clear p1 p2 p3
                        go_wp2_with fail
                        try rw [Exit.hop_ret]
                        go_ret
                        exact ⟨by rw [HA.out]; first | rfl | (congr 1), hb09⟩
                    · have q2 : ¬ (1 : Int) ≤ m9 := by omega
                      have q5 : decide ((1 : Int) ≤ m9) = false := by simp; omega
                      have HA : Hid (ans = false) := Lib.hid (HV.out.trans (by simp [p2]))
                      clear p1 p2
                      go_wp2_with fail
                      try rw [Exit.hop_ret]
                      go_ret
                      exact ⟨by rw [HA.out]; first | rfl | (congr 1), hb09⟩
                  · have q1 : ((k9 : Int) == (s.size : Int)) = false := by simp; omega
                    have HA : Hid (ans = false) := Lib.hid (HV.out.trans (by simp [p1]))
                    clear p1
                    go_wp2_with fail
                    try rw [Exit.hop_ret]
                    go_ret
                    exact ⟨by rw [HA.out]; first | rfl | (congr 1), hb09⟩
                · have f4 : ((c3 : Int) == 45) = false := by simp; omega
                  have HP : Hid (ans = powD (s.data.toList.drop k5)) := Lib.hid (hP.trans (by rw [drop_byte s k5 hk6, sgn_not (by rw [hc3]; omega)]))
                  clear h43 h45 hP
                  go_wp2_with fail
                  refine (digits_walk s (by omega) (k5) (by omega) _).mono ?_
                  rintro e w9 ⟨⟨k9, rfl, hk9⟩, hb9⟩
                  have hb09 := hb1.trans (hb9.mono hb1.size)
                  have hv9 : ans = decide (k9 = s.size ∧ 1 ≤ k9 - (k5) ∧ k9 - (k5) ≤ 4) := by
                    rw [HP.out]; unfold powD
                    rw [drop_len]
                    apply decide_eq_decide.2
                    have := dl_drop s (k5) (by omega)
                    constructor
                    · intro ⟨q1, q2, q3⟩; omega
                    · intro ⟨q1, q2, q3⟩; omega
                  have hge : (k5) ≤ k9 ∧ k9 ≤ s.size := by have := dl_drop s (k5) (by omega); omega
                  have hw9 : IntKind.i64.wrap ((k9 : Int) - ((k5 : Nat) : Int)) = ((k9 - (k5) : Nat) : Int) := by rw [Go.IntKind.wrap_i64]; omega
                  have HG := Lib.hid hge
                  clear hk9 hge
                  obtain ⟨m9, hm9⟩ : ∃ m : Nat, m = k9 - (k5) := ⟨_, rfl⟩
                  rw [← hm9] at hv9 hw9
                  have hw8 : (k9 : Int) - ((k5 : Nat) : Int) = (m9 : Int) := by have := HG.out; omega
                  have hmb : m9 ≤ 1000 := by have := HG.out; omega
                  have HV := Lib.hid hv9
                  clear hv9 hm9
                  by_cases p1 : k9 = s.size
                  · have q1 : ((k9 : Int) == (s.size : Int)) = true := by simp [p1]
                    by_cases p2 : 1 ≤ m9
                    · have q2 : (1 : Int) ≤ m9 := by omega
                      have q5 : decide ((1 : Int) ≤ m9) = true := by simp; omega
                      by_cases p3 : m9 ≤ 4
                      · have q3 : (m9 : Int) ≤ 4 := by omega
                        have q4 : decide ((m9 : Int) ≤ 4) = true := by simp; omega
                        have HA : Hid (ans = true) := Lib.hid (HV.out.trans (by simp [p1, p2, p3]))
                        clear p1 p2 p3
                        go_wp2_with fail
                        try rw [Exit.hop_ret]
                        go_ret
                        exact ⟨by rw [HA.out]; first | rfl | (congr 1), hb09⟩
                      · have q3 : ¬ (m9 : Int) ≤ 4 := by omega
                        have q4 : decide ((m9 : Int) ≤ 4) = false := by simp; omega
                        have HA : Hid (ans = false) := Lib.hid (HV.out.trans (by simp [p1, p2, p3]))
                        clear p1 p2 p3
                        go_wp2_with fail
                        try rw [Exit.hop_ret]
                        go_ret
                        exact ⟨by rw [HA.out]; first | rfl | (congr 1), hb09⟩
                    · have q2 : ¬ (1 : Int) ≤ m9 := by omega
                      have q5 : decide ((1 : Int) ≤ m9) = false := by simp; omega
                      have HA : Hid (ans = false) := Lib.hid (HV.out.trans (by simp [p2]))
                      clear p1 p2
                      go_wp2_with fail
                      try rw [Exit.hop_ret]
                      go_ret
                      exact ⟨by rw [HA.out]; first | rfl | (congr 1), hb09⟩
                  · have q1 : ((k9 : Int) == (s.size : Int)) = false := by simp; omega
                    have HA : Hid (ans = false) := Lib.hid (HV.out.trans (by simp [p1]))
                    clear p1
                    go_wp2_with fail
                    try rw [Exit.hop_ret]
                    go_ret
                    exact ⟨by rw [HA.out]; first | rfl | (congr 1), hb09⟩
            · have hk6I : ¬ (k5 : Int) < s.size := by omega
              have HP : Hid (ans = powD (s.data.toList.drop k5)) := Lib.hid (hP.trans (by rw [drop_end s k5 (by omega)]; rfl))
              clear hP
              go_wp2_with fail
              refine (digits_walk s (by omega) (k5) (by omega) _).mono ?_
              rintro e w9 ⟨⟨k9, rfl, hk9⟩, hb9⟩
              have hb09 := hb1.trans (hb9.mono hb1.size)
              have hv9 : ans = decide (k9 = s.size ∧ 1 ≤ k9 - (k5) ∧ k9 - (k5) ≤ 4) := by
                rw [HP.out]; unfold powD
                rw [drop_len]
                apply decide_eq_decide.2
                have := dl_drop s (k5) (by omega)
                constructor
                · intro ⟨q1, q2, q3⟩; omega
                · intro ⟨q1, q2, q3⟩; omega
              have hge : (k5) ≤ k9 ∧ k9 ≤ s.size := by have := dl_drop s (k5) (by omega); omega
              have hw9 : IntKind.i64.wrap ((k9 : Int) - ((k5 : Nat) : Int)) = ((k9 - (k5) : Nat) : Int) := by rw [Go.IntKind.wrap_i64]; omega
              have HG := Lib.hid hge
              clear hk9 hge
              obtain ⟨m9, hm9⟩ : ∃ m : Nat, m = k9 - (k5) := ⟨_, rfl⟩
              rw [← hm9] at hv9 hw9
              have hw8 : (k9 : Int) - ((k5 : Nat) : Int) = (m9 : Int) := by have := HG.out; omega
              have hmb : m9 ≤ 1000 := by have := HG.out; omega
              have HV := Lib.hid hv9
              clear hv9 hm9
              by_cases p1 : k9 = s.size
              · have q1 : ((k9 : Int) == (s.size : Int)) = true := by simp [p1]
                by_cases p2 : 1 ≤ m9
                · have q2 : (1 : Int) ≤ m9 := by omega
                  have q5 : decide ((1 : Int) ≤ m9) = true := by simp; omega
                  by_cases p3 : m9 ≤ 4
                  · have q3 : (m9 : Int) ≤ 4 := by omega
                    have q4 : decide ((m9 : Int) ≤ 4) = true := by simp; omega
                    have HA : Hid (ans = true) := Lib.hid (HV.out.trans (by simp [p1, p2, p3]))
                    clear p1 p2 p3
                    go_wp2_with fail
                    try rw [Exit.hop_ret]
                    go_ret
                    exact ⟨by rw [HA.out]; first | rfl | (congr 1), hb09⟩
                  · have q3 : ¬ (m9 : Int) ≤ 4 := by omega
                    have q4 : decide ((m9 : Int) ≤ 4) = false := by simp; omega
                    have HA : Hid (ans = false) := Lib.hid (HV.out.trans (by simp [p1, p2, p3]))
                    clear p1 p2 p3
                    go_wp2_with fail
                    try rw [Exit.hop_ret]
                    go_ret
                    exact ⟨by rw [HA.out]; first | rfl | (congr 1), hb09⟩
                · have q2 : ¬ (1 : Int) ≤ m9 := by omega
                  have q5 : decide ((1 : Int) ≤ m9) = false := by simp; omega
                  have HA : Hid (ans = false) := Lib.hid (HV.out.trans (by simp [p2]))
                  clear p1 p2
                  go_wp2_with fail
                  try rw [Exit.hop_ret]
                  go_ret
                  exact ⟨by rw [HA.out]; first | rfl | (congr 1), hb09⟩
              · have q1 : ((k9 : Int) == (s.size : Int)) = false := by simp; omega
                have HA : Hid (ans = false) := Lib.hid (HV.out.trans (by simp [p1]))
                clear p1
                go_wp2_with fail
                try rw [Exit.hop_ret]
                go_ret
                exact ⟨by rw [HA.out]; first | rfl | (congr 1), hb09⟩
          · have f2 : ((c2 : Int) != 101) = true := by simp; omega
            have HA : Hid (ans = false) := Lib.hid (by rw [HPW.out, drop_byte s k1 hke, powL_not (by rw [hc2]; exact h101)])
            clear h101
            go_wp2_with fail
            go_step3
            refine Exit.hop_goto _ _ rfl ?_
            go_wp2_with fail
            try rw [Exit.hop_ret]
            go_ret
            exact ⟨by rw [HA.out]; rfl, hb1⟩
        · have hkI : ¬ (k1 : Int) < s.size := by omega
          have f1 : ((k1 : Int) == (s.size : Int)) = true := by simp; omega
          have HA : Hid (ans = true) := Lib.hid (by rw [HPW.out, drop_end s k1 (by omega)]; rfl)
          go_wp2_with fail
          try rw [Exit.hop_ret]
          go_ret
          exact ⟨by rw [HA.out]; first | rfl | (congr 1), hb1⟩
    · have hk2I : ¬ (k1 : Int) < s.size := by omega
      have HPW : Hid (ans = powL (s.data.toList.drop k1)) := Lib.hid (by rw [hT, drop_end s k1 (by omega)]; rfl)
      clear hT
      go_wp2_with fail
      go_step3
      refine Exit.hop_goto _ _ rfl ?_
      by_cases hke : k1 < s.size
      · have hkI : (k1 : Int) < s.size := by omega
        have f1 : ((k1 : Int) == (s.size : Int)) = false := by simp; omega
        obtain ⟨c2, hc2⟩ : ∃ c : Nat, (s[k1]).toNat = c := ⟨_, rfl⟩
        have ec2 : ((s[k1].toNat : Nat) : Int) = c2 := by rw [hc2]
        by_cases h101 : c2 = 101
        · have f2 : ((c2 : Int) != 101) = false := by simp [h101]
          have hP : ans = powD (sgn (s.data.toList.drop (k1 + 1))) := by rw [HPW.out, drop_byte s k1 hke, powL_hit (by rw [hc2, h101])]
          have hn1 : IntKind.i64.wrap ((k1 : Int) + 1) = ((k1 + 1 : Nat) : Int) := by rw [Go.IntKind.wrap_i64]; omega
          have hn2 : (k1 : Int) + 1 = ((k1 + 1 : Nat) : Int) := by omega
          obtain ⟨k5, hk5⟩ : ∃ k5 : Nat, k5 = k1 + 1 := ⟨_, rfl⟩
          rw [← hk5] at hP hn1 hn2
          have hk5s : k5 ≤ s.size := by omega
          clear h101 hk5
          by_cases hk6 : k5 < s.size
          · have hk6I : (k5 : Int) < s.size := by omega
            have hk6J : ((k5 : Int)).toNat < s.size := by omega
            obtain ⟨c3, hc3⟩ : ∃ c : Nat, (s[k5]).toNat = c := ⟨_, rfl⟩
            have ec3 : ((s[k5].toNat : Nat) : Int) = c3 := by rw [hc3]
            have hn3 : IntKind.i64.wrap ((k5 : Int) + 1) = ((k5 + 1 : Nat) : Int) := by rw [Go.IntKind.wrap_i64]; omega
            have hn4 : (k5 : Int) + 1 = ((k5 + 1 : Nat) : Int) := by omega
            by_cases h43 : c3 = 43
            · have f3 : ((c3 : Int) == 43) = true := by simp [h43]
              have HP := Lib.hid (hP.trans (by rw [drop_byte s k5 hk6, sgn_hit (Or.inl (by rw [hc3, h43]))]))
              clear h43 hP
              obtain ⟨k7, hk7⟩ : ∃ k7 : Nat, k7 = k5 + 1 := ⟨_, rfl⟩
              rw [← hk7] at HP hn3 hn4
              have hk7s : k7 ≤ s.size := by omega
              clear hk7
              go_wp2_with fail
              refine (digits_walk s (by omega) (k7) (by omega) _).mono ?_
              rintro e w9 ⟨⟨k9, rfl, hk9⟩, hb9⟩
              have hb09 := hb1.trans (hb9.mono hb1.size)
              have hv9 : ans = decide (k9 = s.size ∧ 1 ≤ k9 - (k7) ∧ k9 - (k7) ≤ 4) := by
                rw [HP.out]; unfold powD
                rw [drop_len]
                apply decide_eq_decide.2
                have := dl_drop s (k7) (by omega)
                constructor
                · intro ⟨q1, q2, q3⟩; omega
                · intro ⟨q1, q2, q3⟩; omega
              have hge : (k7) ≤ k9 ∧ k9 ≤ s.size := by have := dl_drop s (k7) (by omega); omega
              have hw9 : IntKind.i64.wrap ((k9 : Int) - ((k7 : Nat) : Int)) = ((k9 - (k7) : Nat) : Int) := by rw [Go.IntKind.wrap_i64]; omega
              have HG := Lib.hid hge
              clear hk9 hge
              obtain ⟨m9, hm9⟩ : ∃ m : Nat, m = k9 - (k7) := ⟨_, rfl⟩
              rw [← hm9] at hv9 hw9
              have hw8 : (k9 : Int) - ((k7 : Nat) : Int) = (m9 : Int) := by have := HG.out; omega
              have hmb : m9 ≤ 1000 := by have := HG.out; omega
              have HV := Lib.hid hv9
              clear hv9 hm9
              by_cases p1 : k9 = s.size
              · have q1 : ((k9 : Int) == (s.size : Int)) = true := by simp [p1]
                by_cases p2 : 1 ≤ m9
                · have q2 : (1 : Int) ≤ m9 := by omega
                  have q5 : decide ((1 : Int) ≤ m9) = true := by simp; omega
                  by_cases p3 : m9 ≤ 4
                  · have q3 : (m9 : Int) ≤ 4 := by omega
                    have q4 : decide ((m9 : Int) ≤ 4) = true := by simp; omega
                    have HA : Hid (ans = true) := Lib.hid (HV.out.trans (by simp [p1, p2, p3]))
                    clear p1 p2 p3
                    go_wp2_with fail
                    try rw [Exit.hop_ret]
                    go_ret
                    exact ⟨by rw [HA.out]; first | rfl | (congr 1), hb09⟩
                  · have q3 : ¬ (m9 : Int) ≤ 4 := by omega
                    have q4 : decide ((m9 : Int) ≤ 4) = false := by simp; omega
                    have HA : Hid (ans = false) := Lib.hid (HV.out.trans (by simp [p1, p2, p3]))
                    clear p1 p2 p3
                    go_wp2_with fail
                    try rw [Exit.hop_ret]
                    go_ret
                    exact ⟨by rw [HA.out]; first | rfl | (congr 1), hb09⟩
                · have q2 : ¬ (1 : Int) ≤ m9 := by omega
                  have q5 : decide ((1 : Int) ≤ m9) = false := by simp; omega
                  have HA : Hid (ans = false) := Lib.hid (HV.out.trans (by simp [p2]))
                  clear p1 p2
                  go_wp2_with fail
                  try rw [Exit.hop_ret]
                  go_ret
                  exact ⟨by rw [HA.out]; first | rfl | (congr 1), hb09⟩
              · have q1 : ((k9 : Int) == (s.size : Int)) = false := by simp; omega
                have HA : Hid (ans = false) := Lib.hid (HV.out.trans (by simp [p1]))
                clear p1
                go_wp2_with fail
                try rw [Exit.hop_ret]
                go_ret
                exact ⟨by rw [HA.out]; first | rfl | (congr 1), hb09⟩
            · have f3 : ((c3 : Int) == 43) = false := by simp; omega
              by_cases h45 : c3 = 45
              · have f4 : ((c3 : Int) == 45) = true := by simp [h45]
                have HP := Lib.hid (hP.trans (by rw [drop_byte s k5 hk6, sgn_hit (Or.inr (by rw [hc3, h45]))]))
                clear h43 h45 hP
                obtain ⟨k7, hk7⟩ : ∃ k7 : Nat, k7 = k5 + 1 := ⟨_, rfl⟩
                rw [← hk7] at HP hn3 hn4
                have hk7s : k7 ≤ s.size := by omega
                clear hk7
                go_wp2_with fail
                refine (digits_walk s (by omega) (k7) (by omega) _).mono ?_
                rintro e w9 ⟨⟨k9, rfl, hk9⟩, hb9⟩
                have hb09 := hb1.trans (hb9.mono hb1.size)
                have hv9 : ans = decide (k9 = s.size ∧ 1 ≤ k9 - (k7) ∧ k9 - (k7) ≤ 4) := by
                  rw [HP.out]; unfold powD
                  rw [drop_len]
                  apply decide_eq_decide.2
                  have := dl_drop s (k7) (by omega)
                  constructor
                  · intro ⟨q1, q2, q3⟩; omega
                  · intro ⟨q1, q2, q3⟩; omega
                have hge : (k7) ≤ k9 ∧ k9 ≤ s.size := by have := dl_drop s (k7) (by omega); omega
                have hw9 : IntKind.i64.wrap ((k9 : Int) - ((k7 : Nat) : Int)) = ((k9 - (k7) : Nat) : Int) := by rw [Go.IntKind.wrap_i64]; omega
                have HG := Lib.hid hge
                clear hk9 hge
                obtain ⟨m9, hm9⟩ : ∃ m : Nat, m = k9 - (k7) := ⟨_, rfl⟩
                rw [← hm9] at hv9 hw9
                have hw8 : (k9 : Int) - ((k7 : Nat) : Int) = (m9 : Int) := by have := HG.out; omega
                have hmb : m9 ≤ 1000 := by have := HG.out; omega
                have HV := Lib.hid hv9
                clear hv9 hm9
                by_cases p1 : k9 = s.size
                · have q1 : ((k9 : Int) == (s.size : Int)) = true := by simp [p1]
                  by_cases p2 : 1 ≤ m9
                  · have q2 : (1 : Int) ≤ m9 := by omega
                    have q5 : decide ((1 : Int) ≤ m9) = true := by simp; omega
                    by_cases p3 : m9 ≤ 4
                    · have q3 : (m9 : Int) ≤ 4 := by omega
                      have q4 : decide ((m9 : Int) ≤ 4) = true := by simp; omega
                      have HA : Hid (ans = true) := Lib.hid (HV.out.trans (by simp [p1, p2, p3]))
                      clear p1 p2 p3
                      go_wp2_with fail
                      try rw [Exit.hop_ret]
                      go_ret
                      exact ⟨by rw [HA.out]; first | rfl | (congr 1), hb09⟩
                    · have q3 : ¬ (m9 : Int) ≤ 4 := by omega
                      have q4 : decide ((m9 : Int) ≤ 4) = false := by simp; omega
                      have HA : Hid (ans = false) := Lib.hid (HV.out.trans (by simp [p1, p2, p3]))
                      clear p1 p2 p3
                      go_wp2_with fail
                      try rw [Exit.hop_ret]
                      go_ret
                      exact ⟨by rw [HA.out]; first | rfl | (congr 1), hb09⟩
                  · have q2 : ¬ (1 : Int) ≤ m9 := by omega
                    have q5 : decide ((1 : Int) ≤ m9) = false := by simp; omega
                    have HA : Hid (ans = false) := Lib.hid (HV.out.trans (by simp [p2]))
                    clear p1 p2
                    go_wp2_with fail
                    try rw [Exit.hop_ret]
                    go_ret
                    exact ⟨by rw [HA.out]; first | rfl | (congr 1), hb09⟩
                · have q1 : ((k9 : Int) == (s.size : Int)) = false := by simp; omega
                  have HA : Hid (ans = false) := Lib.hid (HV.out.trans (by simp [p1]))
                  clear p1
                  go_wp2_with fail
                  try rw [Exit.hop_ret]
                  go_ret
                  exact ⟨by rw [HA.out]; first | rfl | (congr 1), hb09⟩
              · have f4 : ((c3 : Int) == 45) = false := by simp; omega
                have HP : Hid (ans = powD (s.data.toList.drop k5)) := Lib.hid (hP.trans (by rw [drop_byte s k5 hk6, sgn_not (by rw [hc3]; omega)]))
                clear h43 h45 hP
                go_wp2_with fail
                refine (digits_walk s (by omega) (k5) (by omega) _).mono ?_
                rintro e w9 ⟨⟨k9, rfl, hk9⟩, hb9⟩
                have hb09 := hb1.trans (hb9.mono hb1.size)
                have hv9 : ans = decide (k9 = s.size ∧ 1 ≤ k9 - (k5) ∧ k9 - (k5) ≤ 4) := by
                  rw [HP.out]; unfold powD
                  rw [drop_len]
                  apply decide_eq_decide.2
                  have := dl_drop s (k5) (by omega)
                  constructor
                  · intro ⟨q1, q2, q3⟩; omega
                  · intro ⟨q1, q2, q3⟩; omega
                have hge : (k5) ≤ k9 ∧ k9 ≤ s.size := by have := dl_drop s (k5) (by omega); omega
                have hw9 : IntKind.i64.wrap ((k9 : Int) - ((k5 : Nat) : Int)) = ((k9 - (k5) : Nat) : Int) := by rw [Go.IntKind.wrap_i64]; omega
                have HG := Lib.hid hge
                clear hk9 hge
                obtain ⟨m9, hm9⟩ : ∃ m : Nat, m = k9 - (k5) := ⟨_, rfl⟩
                rw [← hm9] at hv9 hw9
                have hw8 : (k9 : Int) - ((k5 : Nat) : Int) = (m9 : Int) := by have := HG.out; omega
                have hmb : m9 ≤ 1000 := by have := HG.out; omega
                have HV := Lib.hid hv9
                clear hv9 hm9
                by_cases p1 : k9 = s.size
                · have q1 : ((k9 : Int) == (s.size : Int)) = true := by simp [p1]
                  by_cases p2 : 1 ≤ m9
                  · have q2 : (1 : Int) ≤ m9 := by omega
                    have q5 : decide ((1 : Int) ≤ m9) = true := by simp; omega
                    by_cases p3 : m9 ≤ 4
                    · have q3 : (m9 : Int) ≤ 4 := by omega
                      have q4 : decide ((m9 : Int) ≤ 4) = true := by simp; omega
                      have HA : Hid (ans = true) := Lib.hid (HV.out.trans (by simp [p1, p2, p3]))
                      clear p1 p2 p3
                      go_wp2_with fail
                      try rw [Exit.hop_ret]
                      go_ret
                      exact ⟨by rw [HA.out]; first | rfl | (congr 1), hb09⟩
                    · have q3 : ¬ (m9 : Int) ≤ 4 := by omega
                      have q4 : decide ((m9 : Int) ≤ 4) = false := by simp; omega
                      have HA : Hid (ans = false) := Lib.hid (HV.out.trans (by simp [p1, p2, p3]))
                      clear p1 p2 p3
                      go_wp2_with fail
                      try rw [Exit.hop_ret]
                      go_ret
                      exact ⟨by rw [HA.out]; first | rfl | (congr 1), hb09⟩
                  · have q2 : ¬ (1 : Int) ≤ m9 := by omega
                    have q5 : decide ((1 : Int) ≤ m9) = false := by simp; omega
                    have HA : Hid (ans = false) := Lib.hid (HV.out.trans (by simp [p2]))
                    clear p1 p2
                    go_wp2_with fail
                    try rw [Exit.hop_ret]
                    go_ret
                    exact ⟨by rw [HA.out]; first | rfl | (congr 1), hb09⟩
                · have q1 : ((k9 : Int) == (s.size : Int)) = false := by simp; omega
                  have HA : Hid (ans = false) := Lib.hid (HV.out.trans (by simp [p1]))
                  clear p1
                  go_wp2_with fail
                  try rw [Exit.hop_ret]
                  go_ret
                  exact ⟨by rw [HA.out]; first | rfl | (congr 1), hb09⟩
          · have hk6I : ¬ (k5 : Int) < s.size := by omega
            have HP : Hid (ans = powD (s.data.toList.drop k5)) := Lib.hid (hP.trans (by rw [drop_end s k5 (by omega)]; rfl))
            clear hP
            go_wp2_with fail
            refine (digits_walk s (by omega) (k5) (by omega) _).mono ?_
            rintro e w9 ⟨⟨k9, rfl, hk9⟩, hb9⟩
            have hb09 := hb1.trans (hb9.mono hb1.size)
            have hv9 : ans = decide (k9 = s.size ∧ 1 ≤ k9 - (k5) ∧ k9 - (k5) ≤ 4) := by
              rw [HP.out]; unfold powD
              rw [drop_len]
              apply decide_eq_decide.2
              have := dl_drop s (k5) (by omega)
              constructor
              · intro ⟨q1, q2, q3⟩; omega
              · intro ⟨q1, q2, q3⟩; omega
            have hge : (k5) ≤ k9 ∧ k9 ≤ s.size := by have := dl_drop s (k5) (by omega); omega
            have hw9 : IntKind.i64.wrap ((k9 : Int) - ((k5 : Nat) : Int)) = ((k9 - (k5) : Nat) : Int) := by rw [Go.IntKind.wrap_i64]; omega
            have HG := Lib.hid hge
            clear hk9 hge
            obtain ⟨m9, hm9⟩ : ∃ m : Nat, m = k9 - (k5) := ⟨_, rfl⟩
            rw [← hm9] at hv9 hw9
            have hw8 : (k9 : Int) - ((k5 : Nat) : Int) = (m9 : Int) := by have := HG.out; omega
            have hmb : m9 ≤ 1000 := by have := HG.out; omega
            have HV := Lib.hid hv9
            clear hv9 hm9
            by_cases p1 : k9 = s.size
            · have q1 : ((k9 : Int) == (s.size : Int)) = true := by simp [p1]
              by_cases p2 : 1 ≤ m9
              · have q2 : (1 : Int) ≤ m9 := by omega
                have q5 : decide ((1 : Int) ≤ m9) = true := by simp; omega
                by_cases p3 : m9 ≤ 4
                · have q3 : (m9 : Int) ≤ 4 := by omega
                  have q4 : decide ((m9 : Int) ≤ 4) = true := by simp; omega
                  have HA : Hid (ans = true) := Lib.hid (HV.out.trans (by simp [p1, p2, p3]))
                  clear p1 p2 p3
                  go_wp2_with fail
                  try rw [Exit.hop_ret]
                  go_ret
                  exact ⟨by rw [HA.out]; first | rfl | (congr 1), hb09⟩
                · have q3 : ¬ (m9 : Int) ≤ 4 := by omega
                  have q4 : decide ((m9 : Int) ≤ 4) = false := by simp; omega
                  have HA : Hid (ans = false) := Lib.hid (HV.out.trans (by simp [p1, p2, p3]))
                  clear p1 p2 p3
                  go_wp2_with fail
                  try rw [Exit.hop_ret]
                  go_ret
                  exact ⟨by rw [HA.out]; first | rfl | (congr 1), hb09⟩
              · have q2 : ¬ (1 : Int) ≤ m9 := by omega
                have q5 : decide ((1 : Int) ≤ m9) = false := by simp; omega
                have HA : Hid (ans = false) := Lib.hid (HV.out.trans (by simp [p2]))
                clear p1 p2
                go_wp2_with fail
                try rw [Exit.hop_ret]
                go_ret
                exact ⟨by rw [HA.out]; first | rfl | (congr 1), hb09⟩
            · have q1 : ((k9 : Int) == (s.size : Int)) = false := by simp; omega
              have HA : Hid (ans = false) := Lib.hid (HV.out.trans (by simp [p1]))
              clear p1
              go_wp2_with fail
              try rw [Exit.hop_ret]
              go_ret
              exact ⟨by rw [HA.out]; first | rfl | (congr 1), hb09⟩
        · have f2 : ((c2 : Int) != 101) = true := by simp; omega
          have HA : Hid (ans = false) := Lib.hid (by rw [HPW.out, drop_byte s k1 hke, powL_not (by rw [hc2]; exact h101)])
          clear h101
          go_wp2_with fail
          go_step3
          refine Exit.hop_goto _ _ rfl ?_
          go_wp2_with fail
          try rw [Exit.hop_ret]
          go_ret
          exact ⟨by rw [HA.out]; rfl, hb1⟩
      · have hkI : ¬ (k1 : Int) < s.size := by omega
        have f1 : ((k1 : Int) == (s.size : Int)) = true := by simp; omega
        have HA : Hid (ans = true) := Lib.hid (by rw [HPW.out, drop_end s k1 (by omega)]; rfl)
        go_wp2_with fail
        try rw [Exit.hop_ret]
        go_ret
        exact ⟨by rw [HA.out]; first | rfl | (congr 1), hb1⟩
set_option maxRecDepth 100000 in
set_option maxHeartbeats 4000000 in
theorem formed_empty (s : ByteArray) (hs : s.size ≤ 1000) (ans : Bool) (h0 : s.size = 0) (hM : ans = false) (w : World) : Calls Tryz.prog 23 #[.string s] w fun e w' => e = .returned (.bool ans) ∧ Below w.heap.size w w' := by
  have hd : dl (s.data.toList.drop 0) = 0 := by rw [drop_end s 0 (by omega)]; rfl
  have h0I : ¬ (0 : Int) < s.size := by omega
  go_enter Tryz.func23, Tryz.ntmps23
  go_wp2_with fail
  refine wp_scope_hop 3 ?_
  go_wp2_with fail
  refine (digits_walk s (by omega) 0 (by omega) _).mono ?_
  rintro e w1 ⟨⟨k1, rfl, hk1⟩, hb1⟩
  have hk1c : k1 = 0 := by omega
  have HA := Lib.hid hM
  clear hk1 hd hM
  subst hk1c
  go_wp2_with fail
  go_step3
  refine Exit.hop_goto _ _ rfl ?_
  go_wp2_with fail
  try rw [Exit.hop_ret]
  go_ret
  exact ⟨by rw [HA.out]; rfl, hb1⟩
theorem formed_walk (s : ByteArray) (hs : s.size ≤ 1000) (w : World) : Calls Tryz.prog 23 #[.string s] w fun e w' => e = .returned (.bool (formL s.data.toList)) ∧ Below w.heap.size w w' := by
  by_cases h0 : 0 < s.size
  · have e : formL s.data.toList = if s[0].toNat = 45 then formM (s.data.toList.drop 1) else formM (s.data.toList.drop 0) := by
      have h := drop_byte s 0 h0
      rw [List.drop_zero] at h ⊢
      conv => lhs; rw [h]
      unfold formL
      dsimp only
      rw [← h]
    by_cases h45 : s[0].toNat = 45
    · rw [if_pos h45] at e
      exact formed_neg s hs _ h0 h45 e w
    · rw [if_neg h45] at e
      exact formed_pos s hs _ h0 h45 e w
  · exact formed_empty s hs _ (by omega) (by
      have h := drop_end s 0 (by omega)
      rw [List.drop_zero] at h
      rw [h]; rfl) w
end Go.Proofs.YtjpiplplohapnaaGreatDoor
