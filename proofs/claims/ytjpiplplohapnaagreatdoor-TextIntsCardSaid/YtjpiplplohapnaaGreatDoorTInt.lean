/- The walk of text.Int: at every string of at most 2^48 bytes. -/
import Derived.Test.YtjpiplplohapnaaGreatDoorAwH
import Derived.Test.YtjpiplplohapnaaGreatDoorNum
namespace Go.Proofs.YtjpiplplohapnaaGreatDoor
open Go.RowKit Go.Sort Go.Proofs.YtjpiplplohapnaaGreatDoorW.PrintWords
theorem grow_below {B : Nat} {a w : World} (h : Below B a w) (hB : B ≤ a.heap.size) (os : Array Obj) : Below B a (grow w os) :=
  ⟨h.os, h.tape, h.output, by have := h.size; simp [grow]; omega, fun i hi => by
    have h1 := h.block i hi
    have h2 : i < w.heap.size := by have := h.size; omega
    rw [← h1]
    show (w.heap ++ os)[i]? = _
    rw [Array.getElem?_append_left h2]⟩
set_option maxRecDepth 100000 in
theorem int_walk (s : ByteArray) (hlim : s.size ≤ 281474976710656) (w : World) (hL : Laid w) :
    Calls Tryz.prog 17 #[.string s] w fun e w' => e = .returned (.tuple #[.int .i64 (Num.progInt s.data.toList).1, .bool (Num.progInt s.data.toList).2]) ∧ Below w.heap.size w w' := by
  cases h : Lib.atoiAll s.data.toList with
  | ok v =>
    have hb := Num.atoi_bounds h
    have bw : ∀ {w1 : World}, (w1 = w ∨ ∃ t, w1 = Lib.bytesWorld w 5 t) → Below w.heap.size w w1 := by
      rintro w1 (rfl | ⟨t, rfl⟩)
      · exact Below.refl _ _
      · exact Lib.bytesWorld_below _ _ _
    by_cases he : Lib.itoa v = s.data.toList
    · have hr : Num.progInt s.data.toList = (v, true) := by simp only [Num.progInt, h]; rw [if_pos he]
      have et : (Lib.itoa v == s.toList) = true := by simpa [ByteArray.toList_eq] using he
      rw [hr]
      go_enter Tryz.func17, Tryz.ntmps17
      go_wp2_with fail
      refine (Tryz.strconv_Atoi_ok s (by omega) v h _).mono ?_
      rintro e w1 ⟨rfl, hw⟩
      have hb1 := bw hw
      have hL1 := hL.below hb1
      clear hw
      go_wp2_with fail
      refine (Tryz.strconv_Itoa v hb.1 hb.2 _ hL1.u10).mono ?_
      rintro e w2 ⟨rfl, k, os, rfl⟩
      have hb2 : Below w.heap.size w (grow (w1.drewN k) os) := grow_below (below_drewN hb1 k) (Nat.le_refl _) os
      generalize grow (w1.drewN k) os = w2 at *
      clear hL1 hb1
      go_wp2_with fail
      go_ret2
      exact ⟨rfl, hb2⟩
    · have hr : Num.progInt s.data.toList = (0, false) := by simp only [Num.progInt, h]; rw [if_neg he]
      have et : (Lib.itoa v == s.toList) = false := by simpa [ByteArray.toList_eq] using he
      rw [hr]
      go_enter Tryz.func17, Tryz.ntmps17
      go_wp2_with fail
      refine (Tryz.strconv_Atoi_ok s (by omega) v h _).mono ?_
      rintro e w1 ⟨rfl, hw⟩
      have hb1 := bw hw
      have hL1 := hL.below hb1
      clear hw
      go_wp2_with fail
      refine (Tryz.strconv_Itoa v hb.1 hb.2 _ hL1.u10).mono ?_
      rintro e w2 ⟨rfl, k, os, rfl⟩
      have hb2 : Below w.heap.size w (grow (w1.drewN k) os) := grow_below (below_drewN hb1 k) (Nat.le_refl _) os
      generalize grow (w1.drewN k) os = w2 at *
      clear hL1 hb1
      go_wp2_with fail
      go_ret2
      exact ⟨rfl, hb2⟩
  | range =>
    have hr : Num.progInt s.data.toList = (0, false) := by simp only [Num.progInt, h]
    obtain ⟨te, pe, hv⟩ := hL.rng
    have hv' := World.var?_cell gRng hv 0
    rw [hr]
    go_enter Tryz.func17, Tryz.ntmps17
    go_wp2_with fail
    refine (Tryz.strconv_Atoi_range s hlim h (.iface te pe) _ (by simpa using hv') (Or.inr ⟨te, pe, rfl⟩)).mono ?_
    rintro e W1 ⟨N, rfl, -, -, hb⟩
    go_wp2_with fail
    go_ret2
    exact ⟨rfl, hb⟩
  | _ =>
    have hr : Num.progInt s.data.toList = (0, false) := by simp only [Num.progInt, h]
    obtain ⟨te, pe, hv⟩ := hL.syn
    have hv' := World.var?_cell gSyn hv 0
    rw [hr]
    go_enter Tryz.func17, Tryz.ntmps17
    go_wp2_with fail
    refine (Tryz.strconv_Atoi_bad s hlim (fun n hn => by rw [h] at hn; cases hn) (fun hn => by rw [h] at hn; cases hn) (.iface te pe) _ (by simpa using hv') (Or.inr ⟨te, pe, rfl⟩)).mono ?_
    rintro e W1 ⟨N, rfl, -, -, hb⟩
    go_wp2_with fail
    go_ret2
    exact ⟨rfl, hb⟩
end Go.Proofs.YtjpiplplohapnaaGreatDoor
