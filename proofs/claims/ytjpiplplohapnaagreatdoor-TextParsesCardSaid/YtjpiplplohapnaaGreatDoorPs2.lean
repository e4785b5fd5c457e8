/- Part 2 of the proof: WTab, WAt, WRepsOne, RBase, RDig, RAdd, RMul, RMore. -/
import Derived.Test.YtjpiplplohapnaaGreatDoorPs1
import Derived.Laws.StructEq
import Derived.Test.YtjpiplplohapnaaGreatDoorProg
import Derived.Below
import Derived.Deep.Draws
import Derived.Deep.AppendLies
import Derived.Maps.AppendAt
import Derived.OwnWalk
import Derived.Laws.BytesArg
import Derived.Laws.MakeOwn
import Derived.Laws.OwnMore
import Derived.Deep.OwnRows
import Derived.Tactics
import Derived.Lib.ConvBytes
import Derived.Laws.Slices
import Derived.WalkKit
import Derived.KernelRfl
import Derived.RowKit3
import Derived.Deep.LoopGhost
import Derived.Deep.QuietTactic
import Derived.BigQuiet
import Derived.WideLaws
import Derived.Deep.DeepCutAuto
import Derived.Deep.CutBlock
import Derived.Deep.RegionHeld3
import Derived.Laws.Rows
import Derived.Lib.AppendStr
import Derived.ArgAppend
import Derived.Laws.IdiomCopy
import Derived.OrdersHeld
import Derived.Laws.BitsLemmas
import Derived.RowKit
set_option linter.unusedVariables false
set_option linter.unusedSimpArgs false
namespace Go.Proofs.YtjpiplplohapnaaGreatDoorW.PrintLast
open Go.Proofs.YtjpiplplohapnaaGreatDoorW.PrintWords (y9)
def z8d (md : Region.Mode) (o : Oper) : List Nat := (o.after.toList.filter (fun e => Region.binds md e)).map (fun e => e.on)
def clashOf (md : Region.Mode) (ops : Array Oper) (i : Nat) (oi : Oper) : List Nat := (List.range ops.size).filter fun j => !(j == i) && match ops[j]? with
  | some oj => !(oj.after.any (fun e => Region.binds md e && e.on == i) || oi.apart ops oj)
  | none => false
def rtab (md : Region.Mode) (ops : Array Oper) : Bool × List (List Nat × List Nat) := (Region.noSelect ops, (List.range ops.size).map fun i => match ops[i]? with
  | some o => (z8d md o, clashOf md ops i o)
  | none => ([], []))
def z5z (T : List (List Nat × List Nat)) (l : List Bool) (i : Nat) : Bool := !l.getD i true && match T[i]? with
  | some r => r.1.all (fun j => l.getD j false)
  | none => false
def readyT (T : List (List Nat × List Nat)) (l : List Bool) : List Nat := (List.range T.length).filter (z5z T l)
def freeT (T : List (List Nat × List Nat)) (l : List Bool) (i : Nat) : Bool := match T[i]? with
  | some r => r.2.all (fun j => l.getD j true)
  | none => false
def closedT (T : List (List Nat × List Nat)) (l : List Bool) : Bool := (List.range T.length).all fun j => !l.getD j false || match T[j]? with
  | some r => r.1.all (fun k => l.getD k false)
  | none => true
def reachT (T : List (List Nat × List Nat)) (i : Nat) : Nat → Nat → Bool
  | 0, _ => false
  | fuel + 1, d => match T[d]? with
    | some r => r.1.any fun j => j == i || reachT T i fuel j
    | none => false
def lastT (T : List (List Nat × List Nat)) (l : List Bool) (ds : List Nat) (i : Nat) : Bool := ds.all fun d => l.getD d true || reachT T i T.length d
section
variable {md : Region.Mode} {ops : Array Oper} {T : Bool × List (List Nat × List Nat)} {l l' li lj lk : Array Bool} {ds : List Nat} {i j k : Nat}
theorem gd (l : Array Bool) (j : Nat) (b : Bool) : l.getD j b = l.toList.getD j b := by simp [Array.getD_eq_getD_getElem?, List.getD_eq_getElem?_getD]
theorem needs_all (o : Oper) (p : Nat → Bool) : o.after.all (fun e => !Region.binds md e || p e.on) = (z8d md o).all p := by
  unfold z8d
  rw [← Array.all_toList]
  induction o.after.toList with
  | nil => rfl
  | cons e r ih =>
    rw [List.all_cons, ih, List.filter_cons]
    cases h : Region.binds md e <;> simp
theorem needs_any (o : Oper) (p : Nat → Bool) : o.after.any (fun e => Region.binds md e && p e.on) = (z8d md o).any p := by
  unfold z8d
  rw [← Array.any_toList]
  induction o.after.toList with
  | nil => rfl
  | cons e r ih =>
    rw [List.any_cons, ih, List.filter_cons]
    cases h : Region.binds md e <;> simp
theorem z5w : (rtab md ops).2.length = ops.size := by simp [rtab]
theorem z7y {o : Oper} (h : ops[i]? = some o) : (rtab md ops).2[i]? = some (z8d md o, clashOf md ops i o) := by
  have hi := (Array.getElem?_eq_some_iff.1 h).1
  unfold rtab
  rw [List.getElem?_map, List.getElem?_range hi, Option.map_some, h]
theorem z8e (h : ops[i]? = none) : (rtab md ops).2[i]? = none := by
  have hi : ops.size ≤ i := Array.getElem?_eq_none_iff.1 h
  exact List.getElem?_eq_none (by rw [z5w]; exact hi)
theorem readyAt_eq : z5z (rtab md ops).2 l.toList i = (!l.getD i true && ((ops[i]?).map (·.after.all fun e => !Region.binds md e || l.getD e.on false)).getD false) := by
  unfold z5z
  rw [gd]
  cases h : ops[i]? with
  | none => rw [z8e h]; rfl
  | some o =>
    rw [z7y h]
    simp only [Option.map_some, Option.getD_some]
    rw [← needs_all]
    simp only [gd]
theorem ready_eq : Region.ready md ops l = readyT (rtab md ops).2 l.toList := by
  unfold Region.ready readyT
  rw [z5w]
  refine List.filter_congr (fun i _ => ?_)
  rw [readyAt_eq]
theorem free_eq : Region.free md ops l i = freeT (rtab md ops).2 l.toList i := by
  unfold Region.free freeT
  cases h : ops[i]? with
  | none => rw [z8e h]
  | some oi =>
    rw [z7y h]
    simp only [clashOf]
    rw [List.all_filter]
    congr 1
    funext j
    rw [gd]
    cases hj : ops[j]? with
    | none => cases (j == i) <;> cases (l.toList.getD j true) <;> simp
    | some oj =>
      cases (j == i) <;> cases (l.toList.getD j true) <;> cases (oj.after.any (fun e => Region.binds md e && e.on == i) || oi.apart ops oj) <;> simp_all
theorem closed_eq : Region.closedB md ops l = closedT (rtab md ops).2 l.toList := by
  unfold Region.closedB closedT
  rw [z5w]
  congr 1
  funext j
  rw [gd]
  cases h : ops[j]? with
  | none => rw [z8e h]
  | some o =>
    rw [z7y h]
    simp only
    rw [← needs_all]
    simp only [gd]
theorem reach_eq : ∀ (fuel d : Nat), Region.z5f md ops i fuel d = reachT (rtab md ops).2 i fuel d
  | 0, _ => rfl
  | fuel + 1, d => by
    unfold Region.z5f reachT
    cases h : ops[d]? with
    | none => rw [z8e h]
    | some o =>
      rw [z7y h]
      simp only
      rw [← needs_any]
      congr 1
      funext e
      rw [reach_eq fuel]
theorem last_eq : Region.lastB md ops l ds i = lastT (rtab md ops).2 l.toList ds i := by
  unfold Region.lastB lastT
  rw [z5w]
  congr 1
  funext d
  rw [gd, reach_eq]
theorem readyAt_mem (h : z5z T.2 l.toList i = true) (hT : rtab md ops = T) : (Region.ready md ops l).contains i = true := by
  subst hT
  rw [ready_eq]
  unfold readyT
  rw [List.contains_iff_mem, List.mem_filter, List.mem_range]
  refine ⟨?_, h⟩
  unfold z5z at h
  rw [Bool.and_eq_true] at h
  cases hq : (rtab md ops).2[i]? with
  | none => rw [hq] at h; simp at h
  | some r => exact (List.getElem?_eq_some_iff.1 hq).1
theorem set_of (h : (l.toList.set i true == l'.toList) = true) : (l.setIfInBounds i true == l') = true := by
  rw [beq_iff_eq] at h ⊢
  apply Array.ext'
  rw [Array.toList_setIfInBounds]
  exact h
def anyT (T : Bool × List (List Nat × List Nat)) (l l' : List Bool) (i : Nat) : Bool := T.1 && freeT T.2 l i && z5z T.2 l i && (l.set i true == l')
theorem z0x (hT : rtab md ops = T) (h : anyT T l.toList l'.toList i = true) : anyB md ops l l' i = true := by
  simp only [anyT, Bool.and_eq_true] at h
  obtain ⟨⟨⟨h1, h2⟩, h3⟩, h4⟩ := h
  have h5 := readyAt_mem h3 hT
  have h6 := set_of h4
  subst hT
  simp only [anyB, Bool.and_eq_true]
  exact ⟨⟨⟨h1, by rw [free_eq]; exact h2⟩, h5⟩, h6⟩
def takeT (T : Bool × List (List Nat × List Nat)) (ds : List Nat) (l l' : List Bool) (i : Nat) : Bool := T.1 && freeT T.2 l i && z5z T.2 l i && closedT T.2 l && lastT T.2 l ds i && (l.set i true == l')
theorem take_of (hT : rtab md ops = T) (h : takeT T ds l.toList l'.toList i = true) : takeB md ops ds l l' i = true := by
  simp only [takeT, Bool.and_eq_true] at h
  obtain ⟨⟨⟨⟨⟨h1, h2⟩, h3⟩, h4⟩, h5⟩, h6⟩ := h
  have h7 := readyAt_mem h3 hT
  have h8 := set_of h6
  subst hT
  simp only [takeB, Bool.and_eq_true]
  exact ⟨⟨⟨⟨⟨h1, by rw [free_eq]; exact h2⟩, h7⟩, by rw [closed_eq]; exact h4⟩, by rw [last_eq]; exact h5⟩, h8⟩
theorem z6k (hT : rtab md ops = T) (h : (readyT T.2 l.toList == [i] && l.toList.set i true == l'.toList) = true) : readyB md ops l l' i = true := by
  simp only [Bool.and_eq_true] at h
  obtain ⟨h1, h2⟩ := h
  subst hT
  simp only [readyB, Bool.and_eq_true]
  exact ⟨by rw [ready_eq]; exact h1, set_of h2⟩
theorem z5i (hT : rtab md ops = T) (h : (readyT T.2 l.toList == []) = true) : (Region.ready md ops l == []) = true := by
  subst hT
  rw [ready_eq]
  exact h
def upM (B : List Nat) (d : Nat) : List Nat → Nat
  | [] => 0
  | n :: r => (2 ^ n ||| (if n < d then B.getD n 0 else 0)) ||| upM B d r
def z4r (T : List (List Nat × List Nat)) (B : List Nat) : Bool := (List.range T.length).all fun d => match T[d]? with
  | some r => (B.getD d 0 ||| upM B d r.1) == upM B d r.1
  | none => false
theorem upM_bit {B : List Nat} {d i : Nat} : ∀ {ns : List Nat}, (upM B d ns).testBit i = true → ∃ n ∈ ns, n = i ∨ (n < d ∧ (B.getD n 0).testBit i = true)
  | [], h => by simp [upM] at h
  | n :: r, h => by
    unfold upM at h
    rw [Nat.testBit_or, Nat.testBit_or, Bool.or_eq_true, Bool.or_eq_true] at h
    rcases h with (h | h) | h
    · rw [Nat.testBit_two_pow] at h
      exact ⟨n, List.mem_cons_self, .inl (by simpa using h)⟩
    · by_cases hn : n < d
      · rw [if_pos hn] at h
        exact ⟨n, List.mem_cons_self, .inr ⟨hn, h⟩⟩
      rw [if_neg hn] at h
      simp at h
    obtain ⟨m, hm, h2⟩ := upM_bit h
    exact ⟨m, List.mem_cons_of_mem _ hm, h2⟩
theorem reach_bit {T : List (List Nat × List Nat)} {B : List Nat} (hB : z4r T B = true) : ∀ (fuel d : Nat), d < fuel → d < T.length → (B.getD d 0).testBit i = true → reachT T i fuel d = true
  | 0, d, h, _, _ => by omega
  | fuel + 1, d, h, hd, hb => by
    have h1 := List.all_eq_true.1 hB d (List.mem_range.2 hd)
    cases hr : T[d]? with
    | none => rw [hr] at h1; simp at h1
    | some r =>
      rw [hr] at h1
      simp only [beq_iff_eq] at h1
      have h2 : (upM B d r.1).testBit i = true := by rw [← h1, Nat.testBit_or, hb, Bool.true_or]
      obtain ⟨n, hn, h3⟩ := upM_bit h2
      unfold reachT
      rw [hr]
      simp only
      rw [List.any_eq_true]
      refine ⟨n, hn, ?_⟩
      rcases h3 with rfl | ⟨h4, h5⟩
      · simp
      rw [reach_bit hB fuel n (by omega) (by omega) h5, Bool.or_true]
def lastW (T : List (List Nat × List Nat)) (B : List Nat) (l : List Bool) (ds : List Nat) (i : Nat) : Bool := ds.all fun d => l.getD d true || (decide (d < T.length) && (B.getD d 0).testBit i)
def takeW (T : Bool × List (List Nat × List Nat)) (B : List Nat) (ds : List Nat) (l l' : List Bool) (i : Nat) : Bool := T.1 && freeT T.2 l i && z5z T.2 l i && closedT T.2 l && lastW T.2 B l ds i && (l.set i true == l')
theorem z3j {B : List Nat} (hT : rtab md ops = T) (hB : z4r T.2 B = true) (h : takeW T B ds l.toList l'.toList i = true) : takeB md ops ds l l' i = true := by
  refine take_of hT ?_
  simp only [takeW, takeT, Bool.and_eq_true] at h ⊢
  obtain ⟨⟨⟨⟨⟨h1, h2⟩, h3⟩, h4⟩, h5⟩, h6⟩ := h
  refine ⟨⟨⟨⟨⟨h1, h2⟩, h3⟩, h4⟩, ?_⟩, h6⟩
  unfold lastW at h5
  unfold lastT
  rw [List.all_eq_true] at h5 ⊢
  intro d hd
  have h7 := h5 d hd
  rw [Bool.or_eq_true, Bool.and_eq_true, decide_eq_true_eq] at h7
  rcases h7 with h7 | ⟨h8, h9⟩
  · rw [h7, Bool.true_or]
  rw [reach_bit hB _ d h8 h8 h9, Bool.or_true]
theorem z3x {P : Program} {Q : Exit → Act → World → Prop} {S : World → Prop} {n : Nat} {a : Act} {w : World} {B : List Nat} (hT : rtab md ops = T) (hB : z4r T.2 B = true) (h : y9 (rtab md ops = T) → y9 (z4r T.2 B = true) → z1h P md ops Q S ds n l a w) : z1h P md ops Q S ds n l a w := h ⟨hT⟩ ⟨hB⟩
end
def opsIn : Code → Nat → Option (Array Oper)
  | .region id ops _, k => if id == k then some ops else none
  | .seq a b, k => match opsIn a k with
    | some o => some o
    | none => opsIn b k
  | .cond _ a b, k => match opsIn a k with
    | some o => some o
    | none => opsIn b k
  | .block _ c, k => opsIn c k
  | .loop c, k => opsIn c k
  | .scope c, k => opsIn c k
  | .rangeFunc _ _ a b, k => match opsIn a k with
    | some o => some o
    | none => opsIn b k
  | _, _ => none
def opsOf (f : Func) (k : Nat) : Array Oper := ((f.body.bind fun c => opsIn c k)).getD #[]
end Go.Proofs.YtjpiplplohapnaaGreatDoorW.PrintLast
namespace Go.Proofs.YtjpiplplohapnaaGreatDoorW.PrintWords
open Go.RowKit
section
variable {w w' u : World} {m B g : Nat} {o : Obj} {row : Option Nat} {S : Nat → Prop} {a : Addr} {v : Value}
theorem below_at (hq : w.drewN m = w') (h : Below B u w) : Below B u w' := by subst hq; exact z0p h m
end
namespace Kd
section
variable {α : Type} {d : Kd α} {e base n m : Nat} {ok : Nat → Prop} {w w' : World} {v : Value} {A : Option Addr} {xs : List α}
theorem R_at (hq : w.drewN m = w') (h : d.R e w base ok v xs) : d.R e w' base ok v xs := by subst hq; exact z4t h m
end
end Kd
end Go.Proofs.YtjpiplplohapnaaGreatDoorW.PrintWords
namespace Go.Proofs.YtjpiplplohapnaaGreatDoorW.PrintWords
theorem Reps.one {α : Type} {R : α → List Value → Prop} {ps : List α} {cs : List Value} {p : α} {v : Value} (hp : R p [v]) (h : Reps R 1 ps cs) : Reps R 1 (p :: ps) (v :: cs) := by
  refine ⟨by simp [h.1], fun j q hq => ?_⟩
  cases j with
  | zero =>
    simp only [List.getElem?_cons_zero, Option.some.injEq] at hq
    subst hq
    simpa using hp
  | succ j =>
    simp only [List.getElem?_cons_succ] at hq
    have h1 := h.2 j q hq
    simpa [Nat.mul_one] using h1
end Go.Proofs.YtjpiplplohapnaaGreatDoorW.PrintWords
namespace Go.Proofs.YtjpiplplohapnaaGreatDoor.PText
open Go.RowKit Go.Proofs.YtjpiplplohapnaaGreatDoorW.PrintWords Go.Proofs.YtjpiplplohapnaaGreatDoorW.PrintLast Go.Proofs.YtjpiplplohapnaaGreatDoorW.PrintMore
attribute [local go_sem] z2i z2j z3i z3k z2d z2c z2q z2r
set_option linter.unusedVariables false
set_option linter.unusedSimpArgs false
def errW : Option Int → Value
  | none => .nilIface
  | some c => .iface 113 (.int .i64 c)
theorem errW_none : errW none = .nilIface := rfl
theorem errW_some (c : Int) : errW (some c) = .iface 113 (.int .i64 c) := rfl
theorem info26 : (Tryz.prog.info? 26).map (fun i => (i.zero, i.size, i.bytes)) = some (some (.int .u64 0), 1, 8) := by kernel_rfl
end Go.Proofs.YtjpiplplohapnaaGreatDoor.PText
namespace Go.Proofs.YtjpiplplohapnaaGreatDoor.PText
open Go.RowKit Go.Proofs.YtjpiplplohapnaaGreatDoorW.PrintWords Go.Proofs.YtjpiplplohapnaaGreatDoorW.PrintLast Go.Proofs.YtjpiplplohapnaaGreatDoorW.PrintMore
attribute [local go_sem] z2i z2j z3i z3k z2d z2c z2q z2r
set_option linter.unusedVariables false
set_option linter.unusedSimpArgs false
def z0r.l0 : Nat → List Int → Int → Option (List Int)
  | 0, _, _ => none
  | k + 1, x0, x3 => if x3 > 0 then (if 0 ≤ (wrap64 (x3 - 1)) then (if (wrap64 (x3 - 1)) < (x0.length : Int) then (if (rd x0 (wrap64 (x3 - 1))) = 0 then (z0r.l0 k x0 (wrap64 (x3 - 1))) else (if 0 ≤ x3 then (if x3 ≤ (x0.length : Int) then (some (x0.take (x3 : Int).toNat)) else (none)) else (none))) else (none)) else (none)) else (if 0 ≤ x3 then (if x3 ≤ (x0.length : Int) then (some (x0.take (x3 : Int).toNat)) else (none)) else (none))
def z0r.f (k : Nat) (l0 : List Int) : Option (List Int) := z0r.l0 k l0 (l0.length : Int)
set_option maxHeartbeats 8000000 in
set_option maxRecDepth 100000 in
theorem z0r.calls (k : Nat) (P0_ : Nat → Prop) (u9000_ : Value) (l0 : List Int) (r : List Int) (w0 w : World) (hB : Below w0.heap.size w0 w) (ho0 : Kd.R (Kd.int .u64) 26 w w0.heap.size P0_ u9000_ l0) (h : z0r.f k l0 = some r) :
    Calls Tryz.prog 68 #[u9000_] w fun e w' => ∃ v0_ : Value, e = .returned (v0_) ∧ Kd.R (Kd.int .u64) 26 w' w0.heap.size (fun k_ => (P0_ k_ ∨ w.heap.size ≤ k_)) v0_ r ∧ Below w0.heap.size w0 w' ∧ Kept w w' (fun k_ => P0_ k_) := by
  have HO0 := y9.mk (show Kd.R (Kd.int .u64) 26 w w0.heap.size (fun k_ => (P0_ k_ ∨ w.heap.size ≤ k_)) u9000_ l0 from Kd.z2l ho0 (fun k_ hk => (.inl hk)))
  have HK := y9.mk (Kept.refl w (fun k_ => P0_ k_))
  have HW0 := y9.mk hB.size
  have HB := y9.mk hB
  clear hB
  have H : (z0r.l0 k l0 (l0.length : Int)) = some r := h
  clear h
  have H' := y9.mk H
  clear H
  obtain ⟨Ao2, co2, eo2⟩ := Kd.z1g HO0.out
  subst eo2
  go_enter Tryz.func68, Tryz.ntmps68
  go_wp2
  go_loopg [3] k (fun kq v3 w' => ∃ (x3_1 : Int), v3 = .int .i64 x3_1 ∧ y9 (z0r.l0 kq l0 x3_1 = some r) ∧ y9 (kq ≤ k) ∧ y9 (Kd.R (Kd.int .u64) 26 w' w0.heap.size (fun k_ => (P0_ k_ ∨ w.heap.size ≤ k_)) (.slice Ao2 l0.length co2) l0) ∧ y9 (Kept w w' (fun k_ => P0_ k_)) ∧ y9 (Below w0.heap.size w0 w'))
  case atStart => exact ⟨((l0.length : Int)), (by rfl), H', ⟨Nat.le_refl _⟩, ⟨by (with_reducible repeat (fail)); exact HO0.out⟩, ⟨by repeat ((with_reducible exact HK.out))⟩, ⟨by repeat ((with_reducible exact HB.out))⟩⟩
  case round =>
    clear H'
    try clear p2
    obtain ⟨x3_1, rfl, HA, HK1, HO_0, HK, HB⟩ := hrel
    cases gk with
    | zero => exact absurd HA.out (by simp [z0r.l0])
    | succ k1 =>
      have H := HA.out
      clear HA
      simp only [z0r.l0] at H
      by_cases c3 : x3_1 > 0
      · rw [if_pos c3] at H
        have c3b0 : decide (0 < x3_1) = true := decide_eq_true c3
        clear c3
        obtain ⟨ji4, hji4⟩ : ∃ j_ : Int, (wrap64 (x3_1 - 1)) = j_ := ⟨_, rfl⟩
        replace H : (if 0 ≤ (ji4) then (if (ji4) < (l0.length : Int) then (if (rd l0 (ji4)) = 0 then (z0r.l0 k1 l0 ji4) else (if 0 ≤ x3_1 then (if x3_1 ≤ (l0.length : Int) then (some (l0.take (x3_1 : Int).toNat)) else (none)) else (none))) else (none)) else (none)) = some r := by (rw [hji4] at H; exact H)
        have hji4w : (IntKind.i64.wrap (x3_1 - 1)) = ji4 := (z0t _).trans hji4
        by_cases c5 : 0 ≤ (ji4)
        · rw [if_pos c5] at H
          have c5b0 : decide (0 ≤ (ji4)) = true := decide_eq_true c5
          clear c5
          by_cases c6 : (ji4) < (l0.length : Int)
          · rw [if_pos c6] at H
            have c6b0 : decide ((ji4) < (l0.length : Int)) = true := decide_eq_true c6
            clear c6
            by_cases c7 : (rd l0 (ji4)) = 0
            · rw [if_pos c7] at H
              have c7b0 : ((rd l0 (ji4)) == 0) = true := beq_iff_eq.mpr c7
              have c7b1 : ((rd l0 (ji4)) != 0) = false := bne_eq_false_iff_eq.mpr c7
              clear c7
              have H' := y9.mk H
              clear H
              have p142 : 0 ≤ ((ji4) : Int) := of_decide_eq_true (by (with_reducible assumption))
              have q142 : (ji4) < (l0.length : Int) := of_decide_eq_true (by (with_reducible assumption))
              obtain ⟨ad142, e142, hx142_0⟩ := Kd.z2p (Kd.z0q HO_0.out).2.2 (ji4) p142 q142
              cases e142
              replace p142 := eq_true p142
              replace q142 := eq_true q142
              go_wp2
              go_roundg k1
              case measure => have := HK1.out; omega
              case rel => exact ⟨(ji4), (by rfl), H', ⟨by have := HK1.out; omega⟩, ⟨by (with_reducible repeat (fail)); exact HO_0.out⟩, ⟨by repeat ((with_reducible exact HK.out))⟩, ⟨by repeat ((with_reducible exact HB.out))⟩⟩
            rw [if_neg c7] at H
            have c7b0 : ((rd l0 (ji4)) == 0) = false := beq_eq_false_iff_ne.mpr c7
            have c7b1 : ((rd l0 (ji4)) != 0) = true := bne_iff_ne.mpr c7
            by_cases c8 : 0 ≤ x3_1
            · rw [if_pos c8] at H
              have c8b0 := eq_true c8
              have c8b1 : decide (0 ≤ x3_1) = true := decide_eq_true c8
              clear c8
              by_cases c9 : x3_1 ≤ (l0.length : Int)
              · rw [if_pos c9] at H
                have c9b0 := eq_true c9
                have c9b1 : decide (x3_1 ≤ (l0.length : Int)) = true := decide_eq_true c9
                clear c9
                obtain ⟨y143, hy143⟩ : ∃ y_ : List Int, y_ = (l0.take (x3_1 : Int).toNat) := ⟨_, rfl⟩
                replace H : (some y143) = some r := by (rw [hy143]; with_reducible exact H)
                have Ny143 := y9.mk hy143
                clear hy143
                obtain rfl := Option.some.inj H
                have p142 : 0 ≤ ((ji4) : Int) := of_decide_eq_true (by (with_reducible assumption))
                have q142 : (ji4) < (l0.length : Int) := of_decide_eq_true (by (with_reducible assumption))
                obtain ⟨ad142, e142, hx142_0⟩ := Kd.z2p (Kd.z0q HO_0.out).2.2 (ji4) p142 q142
                cases e142
                replace p142 := eq_true p142
                replace q142 := eq_true q142
                have q10 : (x3_1 : Int) ≤ ((l0.length : Int) : Int) := of_decide_eq_true (by (with_reducible assumption))
                obtain ⟨i010, hi010, _, hsz10, _⟩ := info_parts info26
                have hcut10 := cut_to (P := Tryz.prog) 51 26 .i64 Tryz.underlying51 hi010 (some ad142) l0.length co2 x3_1 (of_decide_eq_true (by (with_reducible assumption))) q10 (Kd.z0q HO_0.out).2.1
                have hr10 := Kd.R_take (m := (x3_1 : Int).toNat) HO_0.out (by omega)
                have hy10 : y143.length = (x3_1 : Int).toNat := (by rw [Ny143.out, List.length_take]; omega)
                rw [← Ny143.out] at hr10
                rw [← hy10] at hr10 hcut10
                clear hy10 hi010 hsz10 HO_0
                have HO145 := y9.mk hr10
                clear hr10
                replace q10 := eq_true q10
                go_wp2
                go_ret
                exact ⟨_, by rfl, by (with_reducible repeat (fail)); exact HO145.out, by repeat ((with_reducible exact HB.out)), by repeat ((with_reducible exact HK.out))⟩
              rw [if_neg c9] at H
              exact absurd H (by simp)
            rw [if_neg c8] at H
            exact absurd H (by simp)
          rw [if_neg c6] at H
          exact absurd H (by simp)
        rw [if_neg c5] at H
        exact absurd H (by simp)
      rw [if_neg c3] at H
      have c3b0 : decide (0 < x3_1) = false := decide_eq_false c3
      clear c3
      by_cases c11 : 0 ≤ x3_1
      · rw [if_pos c11] at H
        have c11b0 := eq_true c11
        have c11b1 : decide (0 ≤ x3_1) = true := decide_eq_true c11
        clear c11
        by_cases c12 : x3_1 ≤ (l0.length : Int)
        · rw [if_pos c12] at H
          have c12b0 := eq_true c12
          have c12b1 : decide (x3_1 ≤ (l0.length : Int)) = true := decide_eq_true c12
          clear c12
          obtain ⟨y146, hy146⟩ : ∃ y_ : List Int, y_ = (l0.take (x3_1 : Int).toNat) := ⟨_, rfl⟩
          replace H : (some y146) = some r := by (rw [hy146]; with_reducible exact H)
          have Ny146 := y9.mk hy146
          clear hy146
          obtain rfl := Option.some.inj H
          have q13 : (x3_1 : Int) ≤ ((l0.length : Int) : Int) := of_decide_eq_true (by (with_reducible assumption))
          obtain ⟨i013, hi013, _, hsz13, _⟩ := info_parts info26
          have hcut13 := cut_to (P := Tryz.prog) 51 26 .i64 Tryz.underlying51 hi013 Ao2 l0.length co2 x3_1 (of_decide_eq_true (by (with_reducible assumption))) q13 (Kd.z0q HO_0.out).2.1
          have hr13 := Kd.R_take (m := (x3_1 : Int).toNat) HO_0.out (by omega)
          have hy13 : y146.length = (x3_1 : Int).toNat := (by rw [Ny146.out, List.length_take]; omega)
          rw [← Ny146.out] at hr13
          rw [← hy13] at hr13 hcut13
          clear hy13 hi013 hsz13 HO_0
          have HO148 := y9.mk hr13
          clear hr13
          replace q13 := eq_true q13
          go_wp2
          go_ret
          exact ⟨_, by rfl, by (with_reducible repeat (fail)); exact HO148.out, by repeat ((with_reducible exact HB.out)), by repeat ((with_reducible exact HK.out))⟩
        rw [if_neg c12] at H
        exact absurd H (by simp)
      rw [if_neg c11] at H
      exact absurd H (by simp)
def z0g.f (l0 : List Int) (a1 : Int) : Option (Int) := if a1 < 0 then (some 0) else (if a1 ≥ (l0.length : Int) then (some 0) else (if 0 ≤ a1 then (if a1 < (l0.length : Int) then (some (rd l0 a1)) else (none)) else (none)))
set_option maxHeartbeats 8000000 in
set_option maxRecDepth 100000 in
theorem z0g.calls (A0 : Option Addr) (c0 : Nat) (l0 : List Int) (a1 : Int) (r : Int) (w : World) (hr0 : Kd.C (Kd.int .u64) w A0 l0.length l0) (hc0 : l0.length ≤ c0) (h : z0g.f l0 a1 = some r) :
    Calls Tryz.prog 69 #[.slice A0 l0.length c0, .int .i64 a1] w fun e w' => e = .returned (.int .u64 r) ∧ z0o w w' := by
  have HR0 := y9.mk hr0
  have HC0 := y9.mk hc0
  clear hr0 hc0
  have H : (if a1 < 0 then (some 0) else (if a1 ≥ (l0.length : Int) then (some 0) else (if 0 ≤ a1 then (if a1 < (l0.length : Int) then (some (rd l0 a1)) else (none)) else (none)))) = some r := h
  clear h
  by_cases c3 : a1 < 0
  · rw [if_pos c3] at H
    have c3b0 : decide (a1 < 0) = true := decide_eq_true c3
    clear c3
    obtain rfl := Option.some.inj H
    go_enter Tryz.func69, Tryz.ntmps69
    go_wp2
    go_ret
    exact ⟨by rfl, by repeat (exact z0o.refl _)⟩
  rw [if_neg c3] at H
  have c3b0 : decide (a1 < 0) = false := decide_eq_false c3
  clear c3
  by_cases c4 : a1 ≥ (l0.length : Int)
  · rw [if_pos c4] at H
    have c4b0 : decide ((l0.length : Int) ≤ a1) = true := decide_eq_true c4
    clear c4
    obtain rfl := Option.some.inj H
    go_enter Tryz.func69, Tryz.ntmps69
    go_wp2
    go_ret
    exact ⟨by rfl, by repeat (exact z0o.refl _)⟩
  rw [if_neg c4] at H
  have c4b0 : decide ((l0.length : Int) ≤ a1) = false := decide_eq_false c4
  clear c4
  by_cases c5 : 0 ≤ a1
  · rw [if_pos c5] at H
    have c5b0 : decide (0 ≤ a1) = true := decide_eq_true c5
    clear c5
    by_cases c6 : a1 < (l0.length : Int)
    · rw [if_pos c6] at H
      have c6b0 : decide (a1 < (l0.length : Int)) = true := decide_eq_true c6
      clear c6
      obtain rfl := Option.some.inj H
      have p161 : 0 ≤ (a1 : Int) := of_decide_eq_true (by (with_reducible assumption))
      have q161 : a1 < (l0.length : Int) := of_decide_eq_true (by (with_reducible assumption))
      obtain ⟨ad161, e161, hx161_0⟩ := Kd.z2p HR0.out a1 p161 q161
      cases e161
      replace p161 := eq_true p161
      replace q161 := eq_true q161
      go_enter Tryz.func69, Tryz.ntmps69
      go_wp2
      go_ret
      exact ⟨by rfl, by repeat (exact z0o.refl _)⟩
    rw [if_neg c6] at H
    exact absurd H (by simp)
  rw [if_neg c5] at H
  exact absurd H (by simp)
def z1y.f (k : Nat) (a0 : Int) : Option (List Int) := (z0r.f k (([Int.tmod a0 4294967296, IntKind.u64.wrap (Int.tdiv a0 4294967296)] : List Int))).bind fun t174 => (some t174)
set_option maxHeartbeats 8000000 in
set_option maxRecDepth 100000 in
theorem z1y.calls (k : Nat) (a0 : Int) (r : List Int) (w : World) (h : z1y.f k a0 = some r) :
    Calls Tryz.prog 62 #[.int .u64 a0] w fun e w' => ∃ v0_ : Value, e = .returned (v0_) ∧ Kd.R (Kd.int .u64) 26 w' w.heap.size (fun _ => True) v0_ r ∧ Below w.heap.size w w' := by
  have HB := y9.mk (Below.refl w.heap.size w)
  have H : ((z0r.f k (([Int.tmod a0 4294967296, IntKind.u64.wrap (Int.tdiv a0 4294967296)] : List Int))).bind fun t174 => (some t174)) = some r := h
  clear h
  obtain ⟨y171, hy171⟩ : ∃ y_ : List Int, y_ = (([Int.tmod a0 4294967296, IntKind.u64.wrap (Int.tdiv a0 4294967296)] : List Int)) := ⟨_, rfl⟩
  replace H : ((z0r.f k y171).bind fun t174 => (some t174)) = some r := by (rw [hy171]; with_reducible exact H)
  have Ny171 := y9.mk hy171
  clear hy171
  replace H := Option.bind_eq_some_iff.mp H
  obtain ⟨t174, A20, H⟩ := H
  have A2 := y9.mk A20
  clear A20
  obtain rfl := Option.some.inj H
  go_enter Tryz.func62, Tryz.ntmps62
  go_wp2_with (first | ((with_reducible refine z1s (N := 7) rfl ?_); refine Kd.R_lit (Kd.int .u64) _ 26 ?hg (N := 7) ?hd (xs := ([Int.tmod a0 4294967296, IntKind.u64.wrap (Int.tdiv a0 4294967296)] : List Int)) (inner := [.int .u64 (Int.tmod a0 4294967296), .int .u64 (IntKind.u64.wrap (Int.tdiv a0 4294967296))]) (ok := fun _ => True) (okp := fun _ => True) ?hr ?hp (fun _ hk => hk) trivial (Below.refl _ _) (Nat.le_refl _) (by simp) ?_; (case hd => rfl); (case hg => rfl); (case hr => (go_simp; done)); (case hp => exact (Reps.one (show Kd.M (Kd.int .u64) _ _ _ (Int.tmod a0 4294967296) [.int .u64 (Int.tmod a0 4294967296)] from rfl) (Reps.one (show Kd.M (Kd.int .u64) _ _ _ (IntKind.u64.wrap (Int.tdiv a0 4294967296)) [.int .u64 (IntKind.u64.wrap (Int.tdiv a0 4294967296))] from rfl) (Reps.none _ _)))); intro v172 w3 ho4 hb hg_ hnew_; clear hg_ hnew_; (rw [← Ny171.out] at ho4); have n0_ := y9.mk (Kd.z1j ho4 (z0n (by repeat ((with_reducible exact HB.out))))); have n1_ := y9.mk (z0m (by repeat ((with_reducible exact HB.out))) hb); clear HB; have HO173 := n0_; have HB := n1_; clear n0_ n1_; clear hb ho4; obtain ⟨Ao5, co5, eo5⟩ := Kd.z1g HO173.out; subst eo5) | ((with_reducible refine z0y (f := 68) rfl ?_); refine z1p (some 8) rfl rfl Tryz.func68 (by kernel_rfl) rfl #[.slice Ao5 y171.length co5] rfl (by (try simp only [List.map_toArray, List.map_cons, List.map_nil]); rfl) ?_; (with_reducible refine (z0r.calls k (fun k_ => some k_ = (.slice Ao5 y171.length co5 : Value).ownBlock) (.slice Ao5 y171.length co5) y171 t174 w _ ?side1 ?side2 A2.out).mono ?_); (case side1 => repeat ((with_reducible exact HB.out))); (case side2 => exact Kd.z7d rfl HO173.out); rintro e w6 ⟨v175, rfl, ho0, hb, hkp⟩; refine ⟨_, rfl, ?_⟩; have n0_ := y9.mk (Kd.z2l (ok' := fun k_ => True) ho0 (fun k_ hk_ => trivial)); have n1_ := y9.mk (hb); clear HB; clear HO173; have HO176 := n0_; have HB := n1_; clear n0_ n1_; (try clear hb); (try clear hkp); (try clear ho0)))
  go_ret
  exact ⟨_, by rfl, by (with_reducible repeat (fail)); exact HO176.out, by repeat ((with_reducible exact HB.out))⟩
def z0j.l0 : Nat → Int → Int → Option (Int)
  | 0, _, _ => none
  | k + 1, x3, x4 => if x4 > 0 then (z0j.l0 k (wrap64 (x3 + 1)) (IntKind.u64.wrap (Int.tdiv x4 2))) else (some x3)
def z0j.f (k : Nat) (l0 : List Int) : Option (Int) := if (l0.length : Int) = 0 then (some 0) else (if 0 ≤ (wrap64 ((l0.length : Int) - 1)) then (if (wrap64 ((l0.length : Int) - 1)) < (l0.length : Int) then (z0j.l0 k (wrap64 (32 * (wrap64 ((l0.length : Int) - 1)))) (rd l0 (wrap64 ((l0.length : Int) - 1)))) else (none)) else (none))
set_option maxHeartbeats 8000000 in
set_option maxRecDepth 100000 in
theorem z0j.calls (k : Nat) (A0 : Option Addr) (c0 : Nat) (l0 : List Int) (r : Int) (w : World) (hr0 : Kd.C (Kd.int .u64) w A0 l0.length l0) (hc0 : l0.length ≤ c0) (h : z0j.f k l0 = some r) :
    Calls Tryz.prog 46 #[.slice A0 l0.length c0] w fun e w' => e = .returned (.int .i64 r) ∧ z0o w w' := by
  have HR0 := y9.mk hr0
  have HC0 := y9.mk hc0
  clear hr0 hc0
  have H : (if (l0.length : Int) = 0 then (some 0) else (if 0 ≤ (wrap64 ((l0.length : Int) - 1)) then (if (wrap64 ((l0.length : Int) - 1)) < (l0.length : Int) then (z0j.l0 k (wrap64 (32 * (wrap64 ((l0.length : Int) - 1)))) (rd l0 (wrap64 ((l0.length : Int) - 1)))) else (none)) else (none))) = some r := h
  clear h
  by_cases c2 : (l0.length : Int) = 0
  · rw [if_pos c2] at H
    have c2b0 : ((l0.length : Int) == 0) = true := beq_iff_eq.mpr c2
    have c2b1 : ((l0.length : Int) != 0) = false := bne_eq_false_iff_eq.mpr c2
    clear c2
    obtain rfl := Option.some.inj H
    go_enter Tryz.func46, Tryz.ntmps46
    go_wp2
    go_ret
    exact ⟨by rfl, by repeat (exact z0o.refl _)⟩
  rw [if_neg c2] at H
  have c2b0 : ((l0.length : Int) == 0) = false := beq_eq_false_iff_ne.mpr c2
  have c2b1 : ((l0.length : Int) != 0) = true := bne_iff_ne.mpr c2
  have c2b2 : ¬ (l0 = []) := fun h_ => c2 (by rw [h_]; rfl)
  obtain ⟨ji3, hji3⟩ : ∃ j_ : Int, (wrap64 ((l0.length : Int) - 1)) = j_ := ⟨_, rfl⟩
  replace H : (if 0 ≤ (ji3) then (if (ji3) < (l0.length : Int) then (z0j.l0 k (wrap64 (32 * (ji3))) (rd l0 (ji3))) else (none)) else (none)) = some r := by (rw [hji3] at H; exact H)
  have hji3w : (IntKind.i64.wrap ((l0.length : Int) - 1)) = ji3 := (z0t _).trans hji3
  by_cases c4 : 0 ≤ (ji3)
  · rw [if_pos c4] at H
    have c4b0 : decide (0 ≤ (ji3)) = true := decide_eq_true c4
    clear c4
    by_cases c5 : (ji3) < (l0.length : Int)
    · rw [if_pos c5] at H
      have c5b0 : decide ((ji3) < (l0.length : Int)) = true := decide_eq_true c5
      clear c5
      have H' := y9.mk H
      clear H
      have p199 : 0 ≤ ((ji3) : Int) := of_decide_eq_true (by (with_reducible assumption))
      have q199 : (ji3) < (l0.length : Int) := of_decide_eq_true (by (with_reducible assumption))
      obtain ⟨ad199, e199, hx199_0⟩ := Kd.z2p HR0.out (ji3) p199 q199
      cases e199
      replace p199 := eq_true p199
      replace q199 := eq_true q199
      go_enter Tryz.func46, Tryz.ntmps46
      go_wp2
      go_loopg [3, 4] k (fun kq v3 v4 w' => ∃ (x3_1 : Int) (x4_1 : Int), v3 = .int .i64 x3_1 ∧ v4 = .int .u64 x4_1 ∧ y9 (z0j.l0 kq x3_1 x4_1 = some r) ∧ y9 (kq ≤ k) ∧ z0o w w')
      case atStart => exact ⟨(wrap64 (32 * (ji3))), (rd l0 (ji3)), (by rfl), (by rfl), H', ⟨Nat.le_refl _⟩, by repeat (exact z0o.refl _)⟩
      case round =>
        clear H'
        (try clear p1); (try clear q1); (try clear hx1); (try clear c2); (try clear c2b0); (try clear c2b1); (try clear c2b2); (try clear p2); (try clear c4); (try clear c4b0); (try clear c5); (try clear c5b0); (try clear hx199_0); (try clear p199); (try clear q199)
        obtain ⟨x3_1, x4_1, rfl, rfl, HA, HK1, ⟨m1, rfl⟩⟩ := hrel
        cases gk with
        | zero => exact absurd HA.out (by simp [z0j.l0])
        | succ k1 =>
          have H := HA.out
          clear HA
          simp only [z0j.l0] at H
          by_cases c6 : x4_1 > 0
          · rw [if_pos c6] at H
            have c6b0 : decide (0 < x4_1) = true := decide_eq_true c6
            clear c6
            have H' := y9.mk H
            clear H
            go_wp2
            go_roundg k1
            case measure => have := HK1.out; omega
            case rel => exact ⟨(wrap64 (x3_1 + 1)), (IntKind.u64.wrap (Int.tdiv x4_1 2)), (by rfl), (by rfl), H', ⟨by have := HK1.out; omega⟩, by repeat (first | exact z0o.refl _ | apply z0o.step)⟩
          rw [if_neg c6] at H
          have c6b0 : decide (0 < x4_1) = false := decide_eq_false c6
          clear c6
          obtain rfl := Option.some.inj H
          go_wp2
          go_ret
          exact ⟨by rfl, by repeat (first | exact z0o.refl _ | apply z0o.step)⟩
    rw [if_neg c5] at H
    exact absurd H (by simp)
  rw [if_neg c4] at H
  exact absurd H (by simp)
end Go.Proofs.YtjpiplplohapnaaGreatDoor.PText
namespace Go.Proofs.YtjpiplplohapnaaGreatDoor.PText
open Go.RowKit Go.Proofs.YtjpiplplohapnaaGreatDoorW.PrintWords Go.Proofs.YtjpiplplohapnaaGreatDoorW.PrintLast Go.Proofs.YtjpiplplohapnaaGreatDoorW.PrintMore
attribute [local go_sem] z2i z2j z3i z3k z2d z2c z2q z2r
set_option linter.unusedVariables false
set_option linter.unusedSimpArgs false
def z0k.l0 : Nat → List Int → List Int → Int → List Int → Int → Int → Option (List Int)
  | 0, _, _, _, _, _, _ => none
  | k + 1, x0, x1, x5, x6, x7, x8 => if x8 < x5 then ((z0g.f x0 x8).bind fun t165 => ((z0g.f x1 x8).bind fun t166 => (if 0 ≤ x8 then (if x8 < (x6.length : Int) then (z0k.l0 k x0 x1 x5 (x6.set (x8 : Int).toNat (Int.tmod (IntKind.u64.wrap ((IntKind.u64.wrap (t165 + t166)) + x7)) 4294967296)) (IntKind.u64.wrap (Int.tdiv (IntKind.u64.wrap ((IntKind.u64.wrap (t165 + t166)) + x7)) 4294967296)) (wrap64 (x8 + 1))) else (none)) else (none)))) else ((z0r.f k x6).bind fun t168 => (some t168))
def z0k.f (k : Nat) (l0 : List Int) (l1 : List Int) : Option (List Int) := if 0 ≤ (wrap64 ((mx (l0.length : Int) (l1.length : Int)) + 1)) then (if (wrap64 ((mx (l0.length : Int) (l1.length : Int)) + 1) : Int).toNat ≤ 35184372088832 then (z0k.l0 k l0 l1 (wrap64 ((mx (l0.length : Int) (l1.length : Int)) + 1)) (List.replicate (wrap64 ((mx (l0.length : Int) (l1.length : Int)) + 1) : Int).toNat 0) 0 0) else (none)) else (none)
set_option maxHeartbeats 8000000 in
set_option maxRecDepth 100000 in
theorem z0k.calls (k : Nat) (A0 : Option Addr) (c0 : Nat) (l0 : List Int) (A1 : Option Addr) (c1 : Nat) (l1 : List Int) (r : List Int) (w : World) (hr0 : Kd.C (Kd.int .u64) w A0 l0.length l0) (hc0 : l0.length ≤ c0) (hr1 : Kd.C (Kd.int .u64) w A1 l1.length l1) (hc1 : l1.length ≤ c1) (h : z0k.f k l0 l1 = some r) :
    Calls Tryz.prog 40 #[.slice A0 l0.length c0, .slice A1 l1.length c1] w fun e w' => ∃ v0_ : Value, e = .returned (v0_) ∧ Kd.R (Kd.int .u64) 26 w' w.heap.size (fun _ => True) v0_ r ∧ Below w.heap.size w w' := by
  have HR0 := y9.mk hr0
  have HC0 := y9.mk hc0
  clear hr0 hc0
  have HR1 := y9.mk hr1
  have HC1 := y9.mk hc1
  clear hr1 hc1
  have HB := y9.mk (Below.refl w.heap.size w)
  have H : (if 0 ≤ (wrap64 ((mx (l0.length : Int) (l1.length : Int)) + 1)) then (if (wrap64 ((mx (l0.length : Int) (l1.length : Int)) + 1) : Int).toNat ≤ 35184372088832 then (z0k.l0 k l0 l1 (wrap64 ((mx (l0.length : Int) (l1.length : Int)) + 1)) (List.replicate (wrap64 ((mx (l0.length : Int) (l1.length : Int)) + 1) : Int).toNat 0) 0 0) else (none)) else (none)) = some r := h
  clear h
  obtain ⟨ji3, hji3⟩ : ∃ j_ : Int, (mx (l0.length : Int) (l1.length : Int)) = j_ := ⟨_, rfl⟩
  replace H : (if 0 ≤ (wrap64 ((ji3) + 1)) then (if (wrap64 ((ji3) + 1) : Int).toNat ≤ 35184372088832 then (z0k.l0 k l0 l1 (wrap64 ((ji3) + 1)) (List.replicate (wrap64 ((ji3) + 1) : Int).toNat 0) 0 0) else (none)) else (none)) = some r := by (rw [hji3] at H; exact H)
  (try (have hji3l : 0 ≤ ji3 := by (rw [← hji3]; unfold mx; (repeat' split) <;> omega)))
  (try (have hji3m : 0 ≤ ji3 := by omega))
  have hji3_ : (if (l0.length : Int) < (l1.length : Int) then (l1.length : Int) else (l0.length : Int)) = ji3 := hji3
  obtain ⟨ji4, hji4⟩ : ∃ j_ : Int, (wrap64 ((ji3) + 1)) = j_ := ⟨_, rfl⟩
  replace H : (if 0 ≤ (ji4) then (if (ji4 : Int).toNat ≤ 35184372088832 then (z0k.l0 k l0 l1 ji4 (List.replicate (ji4 : Int).toNat 0) 0 0) else (none)) else (none)) = some r := by (rw [hji4] at H; exact H)
  have hji4w : (IntKind.i64.wrap ((ji3) + 1)) = ji4 := (z0t _).trans hji4
  by_cases c5 : 0 ≤ (ji4)
  · rw [if_pos c5] at H
    have c5b0 := eq_true c5
    have c5b1 : decide (0 ≤ (ji4)) = true := decide_eq_true c5
    clear c5
    by_cases c6 : (ji4 : Int).toNat ≤ 35184372088832
    · rw [if_pos c6] at H
      have c6b0 := eq_true c6
      have c6b1 : decide ((ji4 : Int).toNat ≤ 35184372088832) = true := decide_eq_true c6
      clear c6
      obtain ⟨y162, hy162⟩ : ∃ y_ : List Int, y_ = (List.replicate (ji4 : Int).toNat 0) := ⟨_, rfl⟩
      replace H : (z0k.l0 k l0 l1 ji4 y162 0 0) = some r := by (rw [hy162]; with_reducible exact H)
      have Ny162 := y9.mk hy162
      clear hy162
      have H' := y9.mk H
      clear H
      have hx : (l0.length < l1.length ∧ wrap64 ((l1.length : Int) + 1) = ji4) ∨ (¬ l0.length < l1.length ∧ wrap64 ((l0.length : Int) + 1) = ji4) := by
        by_cases hlt : l0.length < l1.length
        · left; refine ⟨hlt, ?_⟩; rw [← hji4, ← hji3_, if_pos (by omega)]
        right; refine ⟨hlt, ?_⟩; rw [← hji4, ← hji3_, if_neg (by omega)]
      clear hji3 hji3_ hji3l hji3m hji4 hji4w
      rcases hx with ⟨hlt, hx⟩ | ⟨hlt, hx⟩
      all_goals
        go_enter Tryz.func40, Tryz.ntmps40
        go_wp2_with (((with_reducible refine z1s (N := 17) rfl ?_); simp only [hx]; refine Kd.R_make (Kd.int .u64) _ 26 rfl (N := 17) rfl 51 _ _ rfl ji4 rfl rfl Tryz.underlying51 (.int .u64 0) 8 info26 rfl (by decide) (by omega) 0 (ok := fun _ => True) (okp := fun _ => True) rfl (fun _ hk => hk) trivial (of_decide_eq_true (by (with_reducible assumption))) (Nat.le_trans (Nat.mul_le_mul_right _ (of_decide_eq_true (by (with_reducible assumption)) : ji4.toNat ≤ 35184372088832)) (by omega)) (Below.refl _ _) (Nat.le_refl _) ?_; intro v163 w7 ho8 hb hg_ hnew_; clear hg_ hnew_; (rw [← Ny162.out] at ho8); have n0_ := y9.mk (Kd.z1j ho8 (z0n (by repeat ((with_reducible exact HB.out))))); have n1_ := y9.mk (z0m (by repeat ((with_reducible exact HB.out))) hb); clear HB; have HO164 := n0_; have HB := n1_; clear n0_ n1_; clear hb ho8))
        go_loopg [7, 8] k (fun kq v7 v8 w' => ∃ (x6_1 : List Int) (x7_1 : Int) (x8_1 : Int), v7 = .int .u64 x7_1 ∧ v8 = .int .i64 x8_1 ∧ y9 (z0k.l0 kq l0 l1 ji4 x6_1 x7_1 x8_1 = some r) ∧ y9 (kq ≤ k) ∧ y9 (Kd.R (Kd.int .u64) 26 w' w.heap.size (fun _ => True) v163 x6_1) ∧ y9 (Below w.heap.size w w'))
        case atStart => exact ⟨(y162), (0), (0), (by rfl), (by rfl), H', ⟨Nat.le_refl _⟩, ⟨by (with_reducible repeat (fail)); exact HO164.out⟩, ⟨by repeat ((with_reducible exact HB.out))⟩⟩
        case round =>
          clear H'
          (try clear c1); (try clear p2); (try clear c4); (try clear c5); (try clear c5b0); (try clear c5b1); (try clear c6); (try clear c6b0); (try clear c6b1); (try clear p6)
          obtain ⟨x6_1, x7_1, x8_1, rfl, rfl, HA, HK1, HO_6, HB⟩ := hrel
          cases gk with
          | zero => exact absurd HA.out (by simp [z0k.l0])
          | succ k1 =>
            have H := HA.out
            clear HA
            simp only [z0k.l0] at H
            by_cases c9 : x8_1 < ji4
            · rw [if_pos c9] at H
              have c9b0 : decide (x8_1 < ji4) = true := decide_eq_true c9
              clear c9
              replace H := Option.bind_eq_some_iff.mp H
              obtain ⟨t165, A100, H⟩ := H
              have A10 := y9.mk A100
              clear A100
              replace H := Option.bind_eq_some_iff.mp H
              obtain ⟨t166, A110, H⟩ := H
              have A11 := y9.mk A110
              clear A110
              by_cases c12 : 0 ≤ x8_1
              · rw [if_pos c12] at H
                have c12b0 : decide (0 ≤ x8_1) = true := decide_eq_true c12
                clear c12
                by_cases c13 : x8_1 < (x6_1.length : Int)
                · rw [if_pos c13] at H
                  have c13b0 : decide (x8_1 < (x6_1.length : Int)) = true := decide_eq_true c13
                  clear c13
                  obtain ⟨y167, hy167⟩ : ∃ y_ : List Int, y_ = (x6_1.set (x8_1 : Int).toNat (Int.tmod (IntKind.u64.wrap ((IntKind.u64.wrap (t165 + t166)) + x7_1)) 4294967296)) := ⟨_, rfl⟩
                  replace H : (z0k.l0 k1 l0 l1 ji4 y167 (IntKind.u64.wrap (Int.tdiv (IntKind.u64.wrap ((IntKind.u64.wrap (t165 + t166)) + x7_1)) 4294967296)) (wrap64 (x8_1 + 1))) = some r := by (rw [hy167]; with_reducible exact H)
                  have Ny167 := y9.mk hy167
                  clear hy167
                  have H' := y9.mk H
                  clear H
                  go_wp2_with (first | ((with_reducible refine z0y (f := 69) rfl ?_); refine z1p (some 25) rfl rfl Tryz.func69 (by kernel_rfl) rfl #[.slice A0 l0.length c0, .int .i64 x8_1] rfl (by (try simp only [List.map_toArray, List.map_cons, List.map_nil]); rfl) ?_; (with_reducible refine (z0g.calls _ _ l0 x8_1 t165 _ ?side1 ?side2 A10.out).mono ?_); (case side1 => repeat (exact (Kd.z1q HR0.out HB.out))); (case side2 => exact HC0.out); rintro e w' ⟨rfl, ⟨nd, rfl⟩⟩; refine ⟨_, rfl, ?_⟩; (try (rw [z4y wr]; generalize hq_ : World.drewN wr _ = wr; have n0_ : y9 (Kd.R (Kd.int .u64) 26 wr w.heap.size (fun _ => True) v163 x6_1) := ⟨by rw [← hq_]; exact (by (with_reducible repeat (apply Kd.z4t)); exact HO_6.out)⟩; have n1_ : y9 (Below w.heap.size w wr) := ⟨by rw [← hq_]; exact (by repeat ((with_reducible first | exact HB.out | apply z0p)))⟩; clear HO_6 HB hq_; have HO_6 := n0_; have HB := n1_; clear n0_ n1_))) | ((with_reducible refine z0y (f := 69) rfl ?_); refine z1p (some 28) rfl rfl Tryz.func69 (by kernel_rfl) rfl #[.slice A1 l1.length c1, .int .i64 x8_1] rfl (by (try simp only [List.map_toArray, List.map_cons, List.map_nil]); rfl) ?_; (with_reducible refine (z0g.calls _ _ l1 x8_1 t166 _ ?side1 ?side2 A11.out).mono ?_); (case side1 => repeat (exact (Kd.z1q HR1.out HB.out))); (case side2 => exact HC1.out); rintro e w' ⟨rfl, ⟨nd, rfl⟩⟩; refine ⟨_, rfl, ?_⟩; (try (rw [z4y wr]; generalize hq_ : World.drewN wr _ = wr; have n0_ : y9 (Kd.R (Kd.int .u64) 26 wr w.heap.size (fun _ => True) v163 x6_1) := ⟨by rw [← hq_]; exact (by (with_reducible repeat (apply Kd.z4t)); exact HO_6.out)⟩; have n1_ : y9 (Below w.heap.size w wr) := ⟨by rw [← hq_]; exact (by repeat ((with_reducible first | exact HB.out | apply z0p)))⟩; clear HO_6 HB hq_; have HO_6 := n0_; have HB := n1_; clear n0_ n1_)); have p14 : 0 ≤ (x8_1 : Int) := of_decide_eq_true (by (with_reducible assumption)); have q14 : (x8_1 : Int) < ((x6_1.length : Int) : Int) := of_decide_eq_true (by (with_reducible assumption)); obtain ⟨go14, co14, eo14, gb14, gl14, cl14, HG14⟩ := Kd.R_form HO_6.out (by omega); (cases eo14); have GB14 := y9.mk gb14; have GG14 := y9.mk HG14; clear gb14 gl14 HG14; obtain ⟨hx14_0, hf14_0⟩ := Kd.z4j 0 HO_6.out (x8_1 : Int) p14 q14; replace p14 := eq_true p14; replace q14 := eq_true q14; obtain ⟨hy15_, hz15_⟩ := Kd.z4j 0 HO_6.out (x8_1 : Int) (of_decide_eq_true (by (with_reducible assumption))) (of_decide_eq_true (by (with_reducible assumption))); have HP15 := Kd.z6t HO_6.out (x8_1 : Int) (Int.tmod (IntKind.u64.wrap ((IntKind.u64.wrap (t165 + t166)) + x7_1)) 4294967296)) | ((with_reducible refine z5o (t := 26) (p := 36) rfl ?_); refine z5d (t := 26) (p := 36) (v := ?vo_w16) (w1 := (wr.setCell ⟨go14, (x8_1 : Int).toNat, none⟩ (.int .u64 (Int.tmod (IntKind.u64.wrap ((IntKind.u64.wrap (t165 + t166)) + x7_1)) 4294967296)))) ?hg ?ho ?hn ?hr ?_; (case ho => rfl); (case hg => rfl); (case hn => rfl); (case hr => (go_simp; done)); intro w16 hw; have hg : wr.grownBy w16 (some go14) := (by rw [hw]; exact HP15.2); have hp_ : Kd.R (Kd.int .u64) 26 w16 w.heap.size (fun _ => True) (.slice (some ⟨go14, 0, none⟩) x6_1.length co14) y167 := (by rw [hw, Ny167.out]; exact HP15.1); clear HP15; have n0_ := y9.mk (hp_); have n1_ := y9.mk ((by rw [hw]; exact z3a (HB.out) GB14.out : Below w.heap.size w w16)); clear HO_6; clear HB; have HO_6 := n0_; have HB := n1_; clear n0_ n1_; clear hg hw hp_))
                  go_roundg k1
                  case measure => have := HK1.out; omega
                  case rel => exact ⟨(y167), (IntKind.u64.wrap (Int.tdiv (IntKind.u64.wrap ((IntKind.u64.wrap (t165 + t166)) + x7_1)) 4294967296)), (wrap64 (x8_1 + 1)), (by rfl), (by rfl), H', ⟨by have := HK1.out; omega⟩, ⟨by (with_reducible repeat (fail)); exact HO_6.out⟩, ⟨by repeat ((with_reducible exact HB.out))⟩⟩
                rw [if_neg c13] at H
                exact absurd H (by simp)
              rw [if_neg c12] at H
              exact absurd H (by simp)
            rw [if_neg c9] at H
            have c9b0 : decide (x8_1 < ji4) = false := decide_eq_false c9
            clear c9
            replace H := Option.bind_eq_some_iff.mp H
            obtain ⟨t168, A170, H⟩ := H
            have A17 := y9.mk A170
            clear A170
            obtain rfl := Option.some.inj H
            obtain ⟨Ao18, co18, eo18⟩ := Kd.z1g HO_6.out
            subst eo18
            go_wp2_with (((with_reducible refine z0y (f := 68) rfl ?_); refine z1p (some 40) rfl rfl Tryz.func68 (by kernel_rfl) rfl #[.slice Ao18 x6_1.length co18] rfl (by (try simp only [List.map_toArray, List.map_cons, List.map_nil]); rfl) ?_; (with_reducible refine (z0r.calls k1 (fun k_ => some k_ = (.slice Ao18 x6_1.length co18 : Value).ownBlock) (.slice Ao18 x6_1.length co18) x6_1 t168 w _ ?side1 ?side2 A17.out).mono ?_); (case side1 => repeat ((with_reducible exact HB.out))); (case side2 => exact Kd.z7d rfl HO_6.out); rintro e w19 ⟨v169, rfl, ho0, hb, hkp⟩; refine ⟨_, rfl, ?_⟩; have n0_ := y9.mk (Kd.z2l (ok' := fun k_ => True) ho0 (fun k_ hk_ => trivial)); have n1_ := y9.mk (hb); clear HB; clear HO_6; have HO170 := n0_; have HB := n1_; clear n0_ n1_; (try clear hb); (try clear hkp); (try clear ho0)))
            go_ret
            exact ⟨_, by rfl, by (with_reducible repeat (fail)); exact HO170.out, by repeat ((with_reducible exact HB.out))⟩
    rw [if_neg c6] at H
    exact absurd H (by simp)
  rw [if_neg c5] at H
  exact absurd H (by simp)
end Go.Proofs.YtjpiplplohapnaaGreatDoor.PText
namespace Go.Proofs.YtjpiplplohapnaaGreatDoor.PText
open Go.RowKit Go.Proofs.YtjpiplplohapnaaGreatDoorW.PrintWords Go.Proofs.YtjpiplplohapnaaGreatDoorW.PrintLast Go.Proofs.YtjpiplplohapnaaGreatDoorW.PrintMore
attribute [local go_sem] z2i z2j z3i z3k z2d z2c z2q z2r
set_option linter.unusedVariables false
set_option linter.unusedSimpArgs false
mutual
def z0h.l0 : Nat → List Int → List Int → List Int → Int → Option (List Int)
  | 0, _, _, _, _ => none
  | k + 1, x0, x1, x5, x6 => if x6 < (x0.length : Int) then (z0h.l1 k x0 x1 x5 x6 0 0) else ((z0r.f k x5).bind fun t152 => (some t152))
def z0h.l1 : Nat → List Int → List Int → List Int → Int → Int → Int → Option (List Int)
  | 0, _, _, _, _, _, _ => none
  | k + 1, x0, x1, x5, x6, x7, x8 => if x8 < (x1.length : Int) then (if 0 ≤ (wrap64 (x6 + x8)) then (if (wrap64 (x6 + x8)) < (x5.length : Int) then (if 0 ≤ x6 then (if x6 < (x0.length : Int) then (if 0 ≤ x8 then (z0h.l1 k x0 x1 (x5.set ((wrap64 (x6 + x8)) : Int).toNat (Int.tmod (IntKind.u64.wrap ((IntKind.u64.wrap ((rd x5 (wrap64 (x6 + x8))) + (IntKind.u64.wrap ((rd x0 x6) * (rd x1 x8))))) + x7)) 4294967296)) x6 (IntKind.u64.wrap (Int.tdiv (IntKind.u64.wrap ((IntKind.u64.wrap ((rd x5 (wrap64 (x6 + x8))) + (IntKind.u64.wrap ((rd x0 x6) * (rd x1 x8))))) + x7)) 4294967296)) (wrap64 (x8 + 1))) else (none)) else (none)) else (none)) else (none)) else (none)) else (if 0 ≤ (wrap64 (x6 + (x1.length : Int))) then (if (wrap64 (x6 + (x1.length : Int))) < (x5.length : Int) then (z0h.l0 k x0 x1 (x5.set ((wrap64 (x6 + (x1.length : Int))) : Int).toNat (IntKind.u64.wrap ((rd x5 (wrap64 (x6 + (x1.length : Int)))) + x7))) (wrap64 (x6 + 1))) else (none)) else (none))
end
def z0h.f (k : Nat) (l0 : List Int) (l1 : List Int) : Option (List Int) := if 0 ≤ (wrap64 ((wrap64 ((l0.length : Int) + (l1.length : Int))) + 1)) then (if (wrap64 ((wrap64 ((l0.length : Int) + (l1.length : Int))) + 1) : Int).toNat ≤ 35184372088832 then (z0h.l0 k l0 l1 (List.replicate (wrap64 ((wrap64 ((l0.length : Int) + (l1.length : Int))) + 1) : Int).toNat 0) 0) else (none)) else (none)
set_option maxHeartbeats 8000000 in
set_option maxRecDepth 100000 in
theorem z0h.calls (k : Nat) (A0 : Option Addr) (c0 : Nat) (l0 : List Int) (A1 : Option Addr) (c1 : Nat) (l1 : List Int) (r : List Int) (w : World) (hr0 : Kd.C (Kd.int .u64) w A0 l0.length l0) (hc0 : l0.length ≤ c0) (hr1 : Kd.C (Kd.int .u64) w A1 l1.length l1) (hc1 : l1.length ≤ c1) (h : z0h.f k l0 l1 = some r) :
    Calls Tryz.prog 35 #[.slice A0 l0.length c0, .slice A1 l1.length c1] w fun e w' => ∃ v0_ : Value, e = .returned (v0_) ∧ Kd.R (Kd.int .u64) 26 w' w.heap.size (fun _ => True) v0_ r ∧ Below w.heap.size w w' := by
  have HR0 := y9.mk hr0
  have HC0 := y9.mk hc0
  clear hr0 hc0
  have HR1 := y9.mk hr1
  have HC1 := y9.mk hc1
  clear hr1 hc1
  have HB := y9.mk (Below.refl w.heap.size w)
  have H : (if 0 ≤ (wrap64 ((wrap64 ((l0.length : Int) + (l1.length : Int))) + 1)) then (if (wrap64 ((wrap64 ((l0.length : Int) + (l1.length : Int))) + 1) : Int).toNat ≤ 35184372088832 then (z0h.l0 k l0 l1 (List.replicate (wrap64 ((wrap64 ((l0.length : Int) + (l1.length : Int))) + 1) : Int).toNat 0) 0) else (none)) else (none)) = some r := h
  clear h
  obtain ⟨ji3, hji3⟩ : ∃ j_ : Int, (wrap64 ((wrap64 ((l0.length : Int) + (l1.length : Int))) + 1)) = j_ := ⟨_, rfl⟩
  replace H : (if 0 ≤ (ji3) then (if (ji3 : Int).toNat ≤ 35184372088832 then (z0h.l0 k l0 l1 (List.replicate (ji3 : Int).toNat 0) 0) else (none)) else (none)) = some r := by (rw [hji3] at H; exact H)
  have hji3w : (IntKind.i64.wrap ((wrap64 ((l0.length : Int) + (l1.length : Int))) + 1)) = ji3 := (z0t _).trans hji3
  by_cases c4 : 0 ≤ (ji3)
  · rw [if_pos c4] at H
    have c4b0 := eq_true c4
    have c4b1 : decide (0 ≤ (ji3)) = true := decide_eq_true c4
    clear c4
    by_cases c5 : (ji3 : Int).toNat ≤ 35184372088832
    · rw [if_pos c5] at H
      have c5b0 := eq_true c5
      have c5b1 : decide ((ji3 : Int).toNat ≤ 35184372088832) = true := decide_eq_true c5
      clear c5
      obtain ⟨y149, hy149⟩ : ∃ y_ : List Int, y_ = (List.replicate (ji3 : Int).toNat 0) := ⟨_, rfl⟩
      replace H : (z0h.l0 k l0 l1 y149 0) = some r := by (rw [hy149]; with_reducible exact H)
      have Ny149 := y9.mk hy149
      clear hy149
      have H' := y9.mk H
      clear H
      go_enter Tryz.func35, Tryz.ntmps35
      go_wp2_with (((with_reducible refine z1s (N := 16) rfl ?_); refine Kd.R_make (Kd.int .u64) _ 26 rfl (N := 16) rfl 51 _ _ rfl ji3 rfl rfl Tryz.underlying51 (.int .u64 0) 8 info26 rfl (by decide) (by omega) 0 (ok := fun _ => True) (okp := fun _ => True) rfl (fun _ hk => hk) trivial (of_decide_eq_true (by (with_reducible assumption))) (Nat.le_trans (Nat.mul_le_mul_right _ (of_decide_eq_true (by (with_reducible assumption)) : ji3.toNat ≤ 35184372088832)) (by omega)) (Below.refl _ _) (Nat.le_refl _) ?_; intro v150 w6 ho7 hb hg_ hnew_; clear hg_ hnew_; (rw [← Ny149.out] at ho7); have n0_ := y9.mk (Kd.z1j ho7 (z0n (by repeat ((with_reducible exact HB.out))))); have n1_ := y9.mk (z0m (by repeat ((with_reducible exact HB.out))) hb); clear HB; have HO151 := n0_; have HB := n1_; clear n0_ n1_; clear hb ho7))
      repeat (go_quiet (fail); try go_wp2_with (fail))
      go_loopg [6] k (fun kq v6 w' => ∃ (x5_1 : List Int) (x6_1 : Int), v6 = .int .i64 x6_1 ∧ y9 (z0h.l0 kq l0 l1 x5_1 x6_1 = some r) ∧ y9 (kq ≤ k) ∧ y9 (Kd.R (Kd.int .u64) 26 w' w.heap.size (fun _ => True) v150 x5_1) ∧ y9 (Below w.heap.size w w'))
      case atStart => exact ⟨(y149), (0), (by rfl), H', ⟨Nat.le_refl _⟩, ⟨by (with_reducible repeat (fail)); exact HO151.out⟩, ⟨by repeat ((with_reducible exact HB.out))⟩⟩
      case round =>
        clear H'
        (try clear c1); (try clear p2); (try clear c3); (try clear c4); (try clear c4b0); (try clear c4b1); (try clear c5); (try clear c5b0); (try clear c5b1); (try clear p6)
        obtain ⟨x5_1, x6_1, rfl, HA, HK1, HO_5, HB⟩ := hrel
        cases gk with
        | zero => exact absurd HA.out (by simp [z0h.l0])
        | succ k1 =>
          have H := HA.out
          clear HA
          simp only [z0h.l0] at H
          by_cases c8 : x6_1 < (l0.length : Int)
          · rw [if_pos c8] at H
            have c8b0 : decide (x6_1 < (l0.length : Int)) = true := decide_eq_true c8
            clear c8
            have H' := y9.mk H
            clear H
            go_wp2
            repeat (go_quiet (fail); try go_wp2)
            go_loopg [7, 8] k1 (fun kq v7 v8 w' => ∃ (x5_2 : List Int) (x7_2 : Int) (x8_2 : Int), v7 = .int .u64 x7_2 ∧ v8 = .int .i64 x8_2 ∧ y9 (z0h.l1 kq l0 l1 x5_2 x6_1 x7_2 x8_2 = some r) ∧ y9 (kq ≤ k1) ∧ y9 (Kd.R (Kd.int .u64) 26 w' w.heap.size (fun _ => True) v150 x5_2) ∧ y9 (Below w.heap.size w w'))
            case atStart => exact ⟨(x5_1), (0), (0), (by rfl), (by rfl), H', ⟨Nat.le_refl _⟩, ⟨by (with_reducible repeat (fail)); exact HO_5.out⟩, ⟨by repeat ((with_reducible exact HB.out))⟩⟩
            case round =>
              clear H'
              (try clear c1); (try clear p2); (try clear c3); (try clear c4); (try clear c4b0); (try clear c4b1); (try clear c5); (try clear c5b0); (try clear c5b1); (try clear p6); (try clear c8); (try clear c8b0); (try clear p2); (try clear p6)
              obtain ⟨x5_2, x7_2, x8_2, rfl, rfl, HA, HK2, HO_5, HB⟩ := hrel
              cases gk with
              | zero => exact absurd HA.out (by simp [z0h.l1])
              | succ k2 =>
                have H := HA.out
                clear HA
                simp only [z0h.l1] at H
                by_cases c9 : x8_2 < (l1.length : Int)
                · rw [if_pos c9] at H
                  have c9b0 : decide (x8_2 < (l1.length : Int)) = true := decide_eq_true c9
                  clear c9
                  obtain ⟨ji10, hji10⟩ : ∃ j_ : Int, (wrap64 (x6_1 + x8_2)) = j_ := ⟨_, rfl⟩
                  replace H : (if 0 ≤ (ji10) then (if (ji10) < (x5_2.length : Int) then (if 0 ≤ x6_1 then (if x6_1 < (l0.length : Int) then (if 0 ≤ x8_2 then (z0h.l1 k2 l0 l1 (x5_2.set ((ji10) : Int).toNat (Int.tmod (IntKind.u64.wrap ((IntKind.u64.wrap ((rd x5_2 (ji10)) + (IntKind.u64.wrap ((rd l0 x6_1) * (rd l1 x8_2))))) + x7_2)) 4294967296)) x6_1 (IntKind.u64.wrap (Int.tdiv (IntKind.u64.wrap ((IntKind.u64.wrap ((rd x5_2 (ji10)) + (IntKind.u64.wrap ((rd l0 x6_1) * (rd l1 x8_2))))) + x7_2)) 4294967296)) (wrap64 (x8_2 + 1))) else (none)) else (none)) else (none)) else (none)) else (none)) = some r := by (rw [hji10] at H; exact H)
                  have hji10w : (IntKind.i64.wrap (x6_1 + x8_2)) = ji10 := (z0t _).trans hji10
                  by_cases c11 : 0 ≤ (ji10)
                  · rw [if_pos c11] at H
                    have c11b0 : decide (0 ≤ (ji10)) = true := decide_eq_true c11
                    clear c11
                    by_cases c12 : (ji10) < (x5_2.length : Int)
                    · rw [if_pos c12] at H
                      have c12b0 : decide ((ji10) < (x5_2.length : Int)) = true := decide_eq_true c12
                      clear c12
                      by_cases c13 : 0 ≤ x6_1
                      · rw [if_pos c13] at H
                        have c13b0 : decide (0 ≤ x6_1) = true := decide_eq_true c13
                        clear c13
                        by_cases c14 : x6_1 < (l0.length : Int)
                        · rw [if_pos c14] at H
                          have c14b0 : decide (x6_1 < (l0.length : Int)) = true := decide_eq_true c14
                          clear c14
                          by_cases c15 : 0 ≤ x8_2
                          · rw [if_pos c15] at H
                            have c15b0 : decide (0 ≤ x8_2) = true := decide_eq_true c15
                            clear c15
                            obtain ⟨y158, hy158⟩ : ∃ y_ : List Int, y_ = (x5_2.set ((ji10) : Int).toNat (Int.tmod (IntKind.u64.wrap ((IntKind.u64.wrap ((rd x5_2 (ji10)) + (IntKind.u64.wrap ((rd l0 x6_1) * (rd l1 x8_2))))) + x7_2)) 4294967296)) := ⟨_, rfl⟩
                            replace H : (z0h.l1 k2 l0 l1 y158 x6_1 (IntKind.u64.wrap (Int.tdiv (IntKind.u64.wrap ((IntKind.u64.wrap ((rd x5_2 (ji10)) + (IntKind.u64.wrap ((rd l0 x6_1) * (rd l1 x8_2))))) + x7_2)) 4294967296)) (wrap64 (x8_2 + 1))) = some r := by (rw [hy158]; with_reducible exact H)
                            have Ny158 := y9.mk hy158
                            clear hy158
                            have H' := y9.mk H
                            clear H
                            obtain ⟨Ao17, co17, eo17⟩ := Kd.z1g HO_5.out
                            subst eo17
                            have p155 : 0 ≤ ((ji10) : Int) := of_decide_eq_true (by (with_reducible assumption))
                            have q155 : (ji10) < (x5_2.length : Int) := of_decide_eq_true (by (with_reducible assumption))
                            obtain ⟨ad155, e155, hx155_0⟩ := Kd.z2p (Kd.z0q HO_5.out).2.2 (ji10) p155 q155
                            cases e155
                            replace p155 := eq_true p155
                            replace q155 := eq_true q155
                            have p156 : 0 ≤ (x6_1 : Int) := of_decide_eq_true (by (with_reducible assumption))
                            have q156 : x6_1 < (l0.length : Int) := of_decide_eq_true (by (with_reducible assumption))
                            obtain ⟨ad156, e156, hx156_0⟩ := Kd.z2p HR0.out x6_1 p156 q156
                            cases e156
                            replace hx156_0 := (HB.out.cell (World.block_lt_of_cell? w _ hx156_0)).trans hx156_0
                            replace p156 := eq_true p156
                            replace q156 := eq_true q156
                            have p157 : 0 ≤ (x8_2 : Int) := of_decide_eq_true (by (with_reducible assumption))
                            have q157 : x8_2 < (l1.length : Int) := of_decide_eq_true (by (with_reducible assumption))
                            obtain ⟨ad157, e157, hx157_0⟩ := Kd.z2p HR1.out x8_2 p157 q157
                            cases e157
                            replace hx157_0 := (HB.out.cell (World.block_lt_of_cell? w _ hx157_0)).trans hx157_0
                            replace p157 := eq_true p157
                            replace q157 := eq_true q157
                            have p16 : 0 ≤ ((ji10) : Int) := of_decide_eq_true (by (with_reducible assumption))
                            have q16 : ((ji10) : Int) < ((x5_2.length : Int) : Int) := of_decide_eq_true (by (with_reducible assumption))
                            obtain ⟨go16, co16, eo16, gb16, gl16, cl16, HG16⟩ := Kd.R_form HO_5.out (by omega)
                            (cases eo16)
                            have GB16 := y9.mk gb16
                            have GG16 := y9.mk HG16
                            clear gb16 gl16 HG16
                            (simp only [add_plain] at hx155_0)
                            obtain ⟨hx16_0, hf16_0⟩ := Kd.z4j 0 HO_5.out ((ji10) : Int) p16 q16
                            replace p16 := eq_true p16
                            replace q16 := eq_true q16
                            have HP18 := Kd.z6t HO_5.out ((ji10) : Int) (Int.tmod (IntKind.u64.wrap ((IntKind.u64.wrap ((rd x5_2 (ji10)) + (IntKind.u64.wrap ((rd l0 x6_1) * (rd l1 x8_2))))) + x7_2)) 4294967296)
                            go_wp2_with (fail)
                            repeat (go_quiet (fail); try go_wp2_with (fail))
                            go_roundg k2
                            case measure => have := HK1.out; have := HK2.out; omega
                            case rel => exact ⟨(y158), (IntKind.u64.wrap (Int.tdiv (IntKind.u64.wrap ((IntKind.u64.wrap ((rd x5_2 (ji10)) + (IntKind.u64.wrap ((rd l0 x6_1) * (rd l1 x8_2))))) + x7_2)) 4294967296)), (wrap64 (x8_2 + 1)), (by rfl), (by rfl), H', ⟨by have := HK1.out; have := HK2.out; omega⟩, ⟨by (with_reducible repeat (fail)); (rw [Ny158.out]; exact (Kd.z6t (Kd.z4t HO_5.out _) ji10 _).1)⟩, ⟨by exact z3a (z0p HB.out _) GB16.out⟩⟩
                          rw [if_neg c15] at H
                          exact absurd H (by simp)
                        rw [if_neg c14] at H
                        exact absurd H (by simp)
                      rw [if_neg c13] at H
                      exact absurd H (by simp)
                    rw [if_neg c12] at H
                    exact absurd H (by simp)
                  rw [if_neg c11] at H
                  exact absurd H (by simp)
                rw [if_neg c9] at H
                have c9b0 : decide (x8_2 < (l1.length : Int)) = false := decide_eq_false c9
                clear c9
                obtain ⟨ji20, hji20⟩ : ∃ j_ : Int, (wrap64 (x6_1 + (l1.length : Int))) = j_ := ⟨_, rfl⟩
                replace H : (if 0 ≤ (ji20) then (if (ji20) < (x5_2.length : Int) then (z0h.l0 k2 l0 l1 (x5_2.set ((ji20) : Int).toNat (IntKind.u64.wrap ((rd x5_2 (ji20)) + x7_2))) (wrap64 (x6_1 + 1))) else (none)) else (none)) = some r := by (rw [hji20] at H; exact H)
                have hji20w : (IntKind.i64.wrap (x6_1 + (l1.length : Int))) = ji20 := (z0t _).trans hji20
                by_cases c21 : 0 ≤ (ji20)
                · rw [if_pos c21] at H
                  have c21b0 : decide (0 ≤ (ji20)) = true := decide_eq_true c21
                  clear c21
                  by_cases c22 : (ji20) < (x5_2.length : Int)
                  · rw [if_pos c22] at H
                    have c22b0 : decide ((ji20) < (x5_2.length : Int)) = true := decide_eq_true c22
                    clear c22
                    obtain ⟨y160, hy160⟩ : ∃ y_ : List Int, y_ = (x5_2.set ((ji20) : Int).toNat (IntKind.u64.wrap ((rd x5_2 (ji20)) + x7_2))) := ⟨_, rfl⟩
                    replace H : (z0h.l0 k2 l0 l1 y160 (wrap64 (x6_1 + 1))) = some r := by (rw [hy160]; with_reducible exact H)
                    have Ny160 := y9.mk hy160
                    clear hy160
                    have H' := y9.mk H
                    clear H
                    obtain ⟨Ao24, co24, eo24⟩ := Kd.z1g HO_5.out
                    subst eo24
                    have p159 : 0 ≤ ((ji20) : Int) := of_decide_eq_true (by (with_reducible assumption))
                    have q159 : (ji20) < (x5_2.length : Int) := of_decide_eq_true (by (with_reducible assumption))
                    obtain ⟨ad159, e159, hx159_0⟩ := Kd.z2p (Kd.z0q HO_5.out).2.2 (ji20) p159 q159
                    cases e159
                    replace p159 := eq_true p159
                    replace q159 := eq_true q159
                    have p23 : 0 ≤ ((ji20) : Int) := of_decide_eq_true (by (with_reducible assumption))
                    have q23 : ((ji20) : Int) < ((x5_2.length : Int) : Int) := of_decide_eq_true (by (with_reducible assumption))
                    obtain ⟨go23, co23, eo23, gb23, gl23, cl23, HG23⟩ := Kd.R_form HO_5.out (by omega)
                    (cases eo23)
                    have GB23 := y9.mk gb23
                    have GG23 := y9.mk HG23
                    clear gb23 gl23 HG23
                    (simp only [add_plain] at hx159_0)
                    obtain ⟨hx23_0, hf23_0⟩ := Kd.z4j 0 HO_5.out ((ji20) : Int) p23 q23
                    replace p23 := eq_true p23
                    replace q23 := eq_true q23
                    have HP25 := Kd.z6t HO_5.out ((ji20) : Int) (IntKind.u64.wrap ((rd x5_2 (ji20)) + x7_2))
                    go_wp2_with (((with_reducible refine z5o (t := 26) (p := 70) rfl ?_); (try (rw [z4y wr]; generalize hq_ : World.drewN wr _ = wr; have n0_ := y9.mk (Kd.R_at hq_ HO_5.out); have n1_ := y9.mk (below_at hq_ HB.out); clear hq_ HO_5 HB; have HO_5 := n0_; have HB := n1_; clear n0_ n1_; (try (have HP25 := Kd.z6t HO_5.out ((ji20) : Int) (IntKind.u64.wrap ((rd x5_2 (ji20)) + x7_2)))))); refine z5d (t := 26) (p := 70) (v := ?vo_w26) (w1 := (wr.setCell ⟨go23, ((ji20) : Int).toNat, none⟩ (.int .u64 (IntKind.u64.wrap ((rd x5_2 (ji20)) + x7_2))))) ?hg ?ho ?hn ?hr ?_; (case ho => rfl); (case hg => rfl); (case hn => rfl); (case hr => (go_simp; done)); intro w26 hw; have hg : wr.grownBy w26 (some go23) := (by rw [hw]; exact HP25.2); have hp_ : Kd.R (Kd.int .u64) 26 w26 w.heap.size (fun _ => True) (.slice (some ⟨go23, 0, none⟩) x5_2.length co24) y160 := (by rw [hw, Ny160.out]; exact HP25.1); clear HP25; have n0_ := y9.mk (hp_); have n1_ := y9.mk ((by rw [hw]; exact z3a (HB.out) GB23.out : Below w.heap.size w w26)); clear HO_5; clear HB; have HO_5 := n0_; have HB := n1_; clear n0_ n1_; clear hg hw hp_))
                    repeat (go_quiet (fail); try go_wp2_with (fail))
                    go_roundg k2
                    case measure => have := HK1.out; have := HK2.out; omega
                    case rel => exact ⟨(y160), (wrap64 (x6_1 + 1)), (by rfl), H', ⟨by have := HK1.out; have := HK2.out; omega⟩, ⟨by (with_reducible repeat (fail)); exact HO_5.out⟩, ⟨by repeat ((with_reducible exact HB.out))⟩⟩
                  rw [if_neg c22] at H
                  exact absurd H (by simp)
                rw [if_neg c21] at H
                exact absurd H (by simp)
          rw [if_neg c8] at H
          have c8b0 : decide (x6_1 < (l0.length : Int)) = false := decide_eq_false c8
          clear c8
          replace H := Option.bind_eq_some_iff.mp H
          obtain ⟨t152, A270, H⟩ := H
          have A27 := y9.mk A270
          clear A270
          obtain rfl := Option.some.inj H
          obtain ⟨Ao28, co28, eo28⟩ := Kd.z1g HO_5.out
          subst eo28
          go_wp2_with ((go_at_call 68; (with_reducible refine (z0r.calls k1 (fun k_ => some k_ = (.slice Ao28 x5_1.length co28 : Value).ownBlock) (.slice Ao28 x5_1.length co28) x5_1 t152 w _ ?side1 ?side2 A27.out).mono ?_); (case side1 => repeat ((with_reducible exact HB.out))); (case side2 => exact Kd.z7d rfl HO_5.out); rintro e w29 ⟨v153, rfl, ho0, hb, hkp⟩; have n0_ := y9.mk (Kd.z2l (ok' := fun k_ => True) ho0 (fun k_ hk_ => trivial)); have n1_ := y9.mk (hb); clear HB; clear HO_5; have HO154 := n0_; have HB := n1_; clear n0_ n1_; (try clear hb); (try clear hkp); (try clear ho0)))
          repeat (go_quiet (fail); try go_wp2_with (fail))
          go_ret
          exact ⟨_, by rfl, by (with_reducible repeat (fail)); exact HO154.out, by repeat ((with_reducible exact HB.out))⟩
    rw [if_neg c5] at H
    exact absurd H (by simp)
  rw [if_neg c4] at H
  exact absurd H (by simp)
end Go.Proofs.YtjpiplplohapnaaGreatDoor.PText
namespace Go.Proofs.YtjpiplplohapnaaGreatDoor.PText
open Go.RowKit Go.Proofs.YtjpiplplohapnaaGreatDoorW.PrintWords Go.Proofs.YtjpiplplohapnaaGreatDoorW.PrintLast Go.Proofs.YtjpiplplohapnaaGreatDoorW.PrintMore
attribute [local go_sem] z2i z2j z3i z3k z2d z2c z2q z2r
set_option linter.unusedVariables false
set_option linter.unusedSimpArgs false
def z2a.f (k : Nat) (l0 : List Int) (a1 : Int) : Option (List Int) := (z0h.f k l0 (([10] : List Int))).bind fun t180 => ((z1y.f k ((a1 - 48) % 256)).bind fun t183 => ((z0k.f k t180 t183).bind fun t186 => (some t186)))
set_option maxHeartbeats 8000000 in
set_option maxRecDepth 100000 in
theorem z2a.calls (k : Nat) (A0 : Option Addr) (c0 : Nat) (l0 : List Int) (a1 : Int) (r : List Int) (w : World) (hr0 : Kd.C (Kd.int .u64) w A0 l0.length l0) (hc0 : l0.length ≤ c0) (h : z2a.f k l0 a1 = some r) :
    Calls Tryz.prog 26 #[.slice A0 l0.length c0, .int .u8 a1] w fun e w' => ∃ v0_ : Value, e = .returned (v0_) ∧ Kd.R (Kd.int .u64) 26 w' w.heap.size (fun _ => True) v0_ r ∧ Below w.heap.size w w' := by
  have HR0 := y9.mk hr0
  have HC0 := y9.mk hc0
  clear hr0 hc0
  have HB := y9.mk (Below.refl w.heap.size w)
  have H : ((z0h.f k l0 (([10] : List Int))).bind fun t180 => ((z1y.f k ((a1 - 48) % 256)).bind fun t183 => ((z0k.f k t180 t183).bind fun t186 => (some t186)))) = some r := h
  clear h
  obtain ⟨y177, hy177⟩ : ∃ y_ : List Int, y_ = (([10] : List Int)) := ⟨_, rfl⟩
  replace H : ((z0h.f k l0 y177).bind fun t180 => ((z1y.f k ((a1 - 48) % 256)).bind fun t183 => ((z0k.f k t180 t183).bind fun t186 => (some t186)))) = some r := by (rw [hy177]; with_reducible exact H)
  have Ny177 := y9.mk hy177
  clear hy177
  replace H := Option.bind_eq_some_iff.mp H
  obtain ⟨t180, A30, H⟩ := H
  have A3 := y9.mk A30
  clear A30
  replace H := Option.bind_eq_some_iff.mp H
  obtain ⟨t183, A40, H⟩ := H
  have A4 := y9.mk A40
  clear A40
  replace H := Option.bind_eq_some_iff.mp H
  obtain ⟨t186, A50, H⟩ := H
  have A5 := y9.mk A50
  clear A50
  obtain rfl := Option.some.inj H
  go_enter Tryz.func26, Tryz.ntmps26
  go_wp2_with (first | ((with_reducible refine z1s (N := 6) rfl ?_); refine Kd.R_lit (Kd.int .u64) _ 26 ?hg (N := 6) ?hd (xs := ([10] : List Int)) (inner := [.int .u64 10]) (ok := fun _ => True) (okp := fun _ => True) ?hr ?hp (fun _ hk => hk) trivial (Below.refl _ _) (Nat.le_refl _) (by simp) ?_; (case hd => rfl); (case hg => rfl); (case hr => (go_simp; done)); (case hp => exact (Reps.one (show Kd.M (Kd.int .u64) _ _ _ 10 [.int .u64 10] from rfl) (Reps.none _ _))); intro v178 w6 ho7 hb hg_ hnew_; clear hg_ hnew_; (rw [← Ny177.out] at ho7); have n0_ := y9.mk (Kd.z1j ho7 (z0n (by repeat ((with_reducible exact HB.out))))); have n1_ := y9.mk (z0m (by repeat ((with_reducible exact HB.out))) hb); clear HB; have HO179 := n0_; have HB := n1_; clear n0_ n1_; clear hb ho7; obtain ⟨Ao8, co8, eo8⟩ := Kd.z1g HO179.out; subst eo8) | ((with_reducible refine z0y (f := 35) rfl ?_); refine z1p (some 7) rfl rfl Tryz.func35 (by kernel_rfl) rfl #[.slice A0 l0.length c0, .slice Ao8 y177.length co8] rfl (by (try simp only [List.map_toArray, List.map_cons, List.map_nil]); rfl) ?_; (with_reducible refine (z0h.calls k _ _ l0 _ _ y177 t180 _ ?side1 ?side2 ?side3 ?side4 A3.out).mono ?_); (case side1 => repeat (exact (Kd.z1q HR0.out HB.out))); (case side2 => exact HC0.out); (case side3 => repeat (exact (Kd.z0q HO179.out).2.2)); (case side4 => exact (Kd.z0q HO179.out).2.1); rintro e w9 ⟨v181, rfl, ho0, hb⟩; refine ⟨_, rfl, ?_⟩; have n0_ := y9.mk (Kd.z1o (by (with_reducible repeat (fail)); exact HO179.out) (Kd.z2g ho0) hb); have n1_ := y9.mk (Kd.z1j (Kd.z2f ho0 (Kd.R_lt (by (with_reducible repeat (fail)); exact HO179.out))) (z0n (by repeat ((with_reducible exact HB.out))))); have n2_ := y9.mk (z0m (by repeat ((with_reducible exact HB.out))) hb); clear HO179; clear HB; have HO179 := n0_; have HO182 := n1_; have HB := n2_; clear n0_ n1_ n2_; (try clear hb); (try clear hb2); (try clear hk); (try clear hi); (try clear ho0)) | ((with_reducible refine z0y (f := 62) rfl ?_); refine z1p (some 11) rfl rfl Tryz.func62 (by kernel_rfl) rfl #[.int .u64 ((a1 - 48) % 256)] rfl (by (try simp only [List.map_toArray, List.map_cons, List.map_nil]); rfl) ?_; (with_reducible refine (z1y.calls k ((a1 - 48) % 256) t183 _ A4.out).mono ?_); rintro e w10 ⟨v184, rfl, ho0, hb⟩; refine ⟨_, rfl, ?_⟩; have n0_ := y9.mk (Kd.z1o (by (with_reducible repeat (fail)); exact HO179.out) (Kd.z2g ho0) hb); have n1_ := y9.mk (Kd.z1o (by (with_reducible repeat (fail)); exact HO182.out) (Kd.z2g ho0) hb); have n2_ := y9.mk (Kd.z1j (Kd.z2f (Kd.z2f ho0 (Kd.R_lt (by (with_reducible repeat (fail)); exact HO179.out))) (Kd.R_lt (by (with_reducible repeat (fail)); exact HO182.out))) (z0n (by repeat ((with_reducible exact HB.out))))); have n3_ := y9.mk (z0m (by repeat ((with_reducible exact HB.out))) hb); clear HO179; clear HO182; clear HB; have HO179 := n0_; have HO182 := n1_; have HO185 := n2_; have HB := n3_; clear n0_ n1_ n2_ n3_; (try clear hb); (try clear hb2); (try clear hk); (try clear hi); (try clear ho0); obtain ⟨Ao11, co11, eo11⟩ := Kd.z1g HO182.out; subst eo11; obtain ⟨Ao12, co12, eo12⟩ := Kd.z1g HO185.out; subst eo12) | ((with_reducible refine z0y (f := 40) rfl ?_); refine z1p (some 12) rfl rfl Tryz.func40 (by kernel_rfl) rfl #[.slice Ao11 t180.length co11, .slice Ao12 t183.length co12] rfl (by (try simp only [List.map_toArray, List.map_cons, List.map_nil]); rfl) ?_; (with_reducible refine (z0k.calls k _ _ t180 _ _ t183 t186 _ ?side1 ?side2 ?side3 ?side4 A5.out).mono ?_); (case side1 => repeat (exact (Kd.z0q HO182.out).2.2)); (case side2 => exact (Kd.z0q HO182.out).2.1); (case side3 => repeat (exact (Kd.z0q HO185.out).2.2)); (case side4 => exact (Kd.z0q HO185.out).2.1); rintro e w13 ⟨v187, rfl, ho0, hb⟩; refine ⟨_, rfl, ?_⟩; have n0_ := y9.mk (Kd.z1o (by (with_reducible repeat (fail)); exact HO179.out) (Kd.z2g ho0) hb); have n1_ := y9.mk (Kd.z1o (by (with_reducible repeat (fail)); exact HO182.out) (Kd.z2g ho0) hb); have n2_ := y9.mk (Kd.z1o (by (with_reducible repeat (fail)); exact HO185.out) (Kd.z2g ho0) hb); have n3_ := y9.mk (Kd.z1j (Kd.z2f (Kd.z2f (Kd.z2f ho0 (Kd.R_lt (by (with_reducible repeat (fail)); exact HO179.out))) (Kd.R_lt (by (with_reducible repeat (fail)); exact HO182.out))) (Kd.R_lt (by (with_reducible repeat (fail)); exact HO185.out))) (z0n (by repeat ((with_reducible exact HB.out))))); have n4_ := y9.mk (z0m (by repeat ((with_reducible exact HB.out))) hb); clear HO179; clear HO182; clear HO185; clear HB; have HO179 := n0_; have HO182 := n1_; have HO185 := n2_; have HO188 := n3_; have HB := n4_; clear n0_ n1_ n2_ n3_ n4_; (try clear hb); (try clear hb2); (try clear hk); (try clear hi); (try clear ho0)))
  go_ret
  exact ⟨_, by rfl, by (with_reducible repeat (fail)); exact Kd.z2l HO188.out (fun _ hk => trivial), by repeat ((with_reducible exact HB.out))⟩
end Go.Proofs.YtjpiplplohapnaaGreatDoor.PText
