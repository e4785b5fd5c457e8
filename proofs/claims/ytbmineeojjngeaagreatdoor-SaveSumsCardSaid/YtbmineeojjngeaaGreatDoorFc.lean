/- SaveSums: what the law comes to by plain names, in the order in which the model's search meets it. -/
import Derived.Test.YtbmineeojjngeaaGreatDoorFa
namespace Go.Proofs.YtbmineeojjngeaaGreatDoor
open Go
/-- the search, with the set of those seen as one number's bits -/
def clos (T : Nat → List Nat) : Nat → List Nat → Nat → List Nat
  | 0, _, _ => []
  | _ + 1, [], _ => []
  | n + 1, f :: r, m => cond (m.testBit f) (clos T n r m) (f :: clos T n (T f ++ r) (m ||| 1 <<< f))
theorem clos_eq (P : Program) (T : Nat → List Nat) (hT : ∀ f, (P.funcs[f]?).elim [] P.leadsTo = T f) : ∀ (n : Nat) (todo seen : List Nat) (m : Nat), (∀ f, seen.contains f = m.testBit f) → P.closureVia n todo seen = seen.reverse ++ clos T n todo m
  | 0, todo, seen, m, _ => by simp [Program.closureVia, clos]
  | n + 1, [], seen, m, _ => by simp [Program.closureVia, clos]
  | n + 1, f :: r, seen, m, h => by
    unfold Program.closureVia clos
    rw [h f]
    cases hb : m.testBit f with
    | true =>
      simp only [if_true, cond_true]
      exact clos_eq P T hT n r seen m h
    | false =>
      simp only [Bool.false_eq_true, if_false, cond_false]
      rw [hT f, clos_eq P T hT n (T f ++ r) (f :: seen) (m ||| 1 <<< f) (fun g => by
        rw [Nat.testBit_or, Nat.one_shiftLeft, Nat.testBit_two_pow, ← h g, List.contains_cons, Bool.or_comm]
        congr 1
        rw [Bool.eq_iff_iff]
        rw [beq_iff_eq, decide_eq_true_iff]
        exact eq_comm)]
      simp
theorem leads_at (f : Nat) : (Tryz.prog.funcs[f]?).elim [] Tryz.prog.leadsTo = leads.getD f [] := by
  rw [← leads_eq, List.getD_eq_getElem?_getD, List.getElem?_map, Array.getElem?_toList]
  cases Tryz.prog.funcs[f]? <;> rfl
set_option maxRecDepth 100000 in
theorem leads_sum : 1 + (leads.map fun l => l.length + 1).sum = 1389 := by kernel_rfl
set_option maxRecDepth 100000 in
theorem fuel_eq : (1 + (Tryz.prog.funcs.toList.map fun g => (Tryz.prog.leadsTo g).length + 1).sum) = 1389 := by
  have e : (Tryz.prog.funcs.toList.map fun g => (Tryz.prog.leadsTo g).length + 1) = (Tryz.prog.funcs.toList.map Tryz.prog.leadsTo).map fun l => l.length + 1 := by
    rw [List.map_map]; rfl
  rw [e, leads_eq]
  exact leads_sum
/-- the functions that the law comes to -/
def reach : List Nat := [3, 4, 7, 5, 6, 8, 9, 12, 28, 50, 13, 29, 30, 27, 32, 31, 14, 33, 51, 92, 93, 91, 148, 149, 94, 95, 150, 151, 193, 194, 15, 34, 52, 96, 98, 152, 97, 53, 39, 60, 40, 61, 110, 111, 62, 112, 63, 113, 163, 64, 18, 54, 99, 100, 101, 153, 102, 154, 195, 196, 233, 155, 197, 234, 114, 164, 235, 116, 115, 16, 35, 36, 55, 103, 104, 156, 157, 198, 105, 11, 26, 49, 90, 48, 81, 87, 147, 82, 142, 83, 143, 144, 84, 145, 146, 192, 85, 86, 88, 89, 17, 37, 38, 56, 106, 158, 159, 160, 161, 162, 107, 58, 57, 108, 109, 59, 19, 10, 20, 21, 22, 41, 65, 117, 165, 23, 42, 43, 24, 44, 45, 46, 66, 118, 167, 166, 199, 236, 275, 310, 335, 336, 237, 276, 311, 277, 278, 312, 279, 119, 125, 172, 120, 168, 200, 238, 239, 121, 169, 201, 240, 202, 241, 280, 313, 337, 364, 365, 347, 366, 338, 339, 341, 340, 342, 343, 367, 368, 369, 346, 370, 372, 371, 344, 345, 373, 381, 388, 389, 382, 374, 383, 314, 348, 349, 375, 170, 203, 242, 122, 124, 171, 123, 67, 126, 127, 173, 204, 243, 244, 205, 139, 175, 176, 211, 188, 227, 226, 267, 303, 304, 328, 358, 357, 268, 269, 305, 220, 222, 249, 285, 259, 260, 300, 261, 225, 177, 213, 262, 263, 264, 265, 301, 266, 302, 326, 327, 330, 360, 354, 355, 356, 270, 306, 329, 359, 308, 271, 307, 331, 361, 281, 332, 309, 333, 362, 363, 380, 387, 392, 393, 334, 247, 282, 315, 316, 321, 317, 318, 350, 351, 352, 376, 377, 384, 390, 212, 248, 283, 319, 320, 284, 298, 322, 323, 186, 174, 206, 207, 208, 209, 245, 210, 246, 68, 128, 178, 69, 129, 179, 70, 130, 180, 214, 215, 216, 250, 251, 252, 286, 287, 288, 289, 290, 291, 292, 293, 294, 295, 217, 181, 218, 253, 296, 324, 299, 297, 353, 378, 385, 386, 391, 379, 325, 254, 255, 256, 190, 257, 71, 131, 72, 132, 73, 74, 133, 182, 184, 183, 221, 258, 219, 134, 75, 135, 185, 223, 224, 76, 136, 187, 77, 137, 78, 138, 79, 140, 189, 228, 272, 230, 231, 273, 274, 229, 232, 80, 141, 191, 25, 47]
theorem clos_reach : clos (fun f => leads.getD f []) 1389 [3] 0 = reach := by kernel_rfl
theorem closure_eq : Tryz.prog.closure 3 = reach := by
  unfold Program.closure
  rw [fuel_eq, clos_eq Tryz.prog (fun f => leads.getD f []) leads_at 1389 [3] [] 0 (fun f => by simp), clos_reach]
  rfl
end Go.Proofs.YtbmineeojjngeaaGreatDoor
