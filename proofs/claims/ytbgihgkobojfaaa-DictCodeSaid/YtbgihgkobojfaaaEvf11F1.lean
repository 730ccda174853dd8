/- Evf11F1: a part of the proof. -/
import Derived.Test.YtbgihgkobojfaaaEvf11E1
open Go Go.Proofs.YtbgihgkobojfaaaEv Go.Proofs.YtbgihgkobojfaaaR Go.IntWalk Go.Proofs
set_option maxRecDepth 20000
set_option maxHeartbeats 8000000
set_option linter.unusedVariables false
set_option linter.unusedSimpArgs false
namespace Go.Proofs.YtbgihgkobojfaaaR
/-- the names of the operations, as bytes -/
def nmB : List Bs := [[40, 76, 73, 84, 41], [40, 66, 82, 65, 78, 67, 72, 41], [40, 48, 66, 82, 65, 78, 67, 72, 41], [40, 67, 65, 76, 76, 41], [69, 88, 73, 84], [40, 68, 79, 41], [40, 63, 68, 79, 41], [40, 76, 79, 79, 80, 41], [40, 43, 76, 79, 79, 80, 41], [85, 78, 76, 79, 79, 80], [73], [74], [62, 82], [82, 62], [82, 64], [69, 88, 69, 67, 85, 84, 69], [67, 65, 84, 67, 72], [84, 72, 82, 79, 87], [68, 85, 80], [68, 82, 79, 80], [83, 87, 65, 80], [79, 86, 69, 82], [82, 79, 84], [78, 73, 80], [84, 85, 67, 75], [50, 68, 85, 80], [50, 68, 82, 79, 80], [50, 83, 87, 65, 80], [50, 79, 86, 69, 82], [63, 68, 85, 80], [80, 73, 67, 75], [82, 79, 76, 76], [68, 69, 80, 84, 72], [43], [45], [42], [47], [77, 79, 68], [47, 77, 79, 68], [42, 47], [42, 47, 77, 79, 68], [49, 43], [49, 45], [50, 42], [50, 47], [78, 69, 71, 65, 84, 69], [65, 66, 83], [77, 73, 78], [77, 65, 88], [65, 78, 68], [79, 82], [88, 79, 82], [73, 78, 86, 69, 82, 84], [76, 83, 72, 73, 70, 84], [82, 83, 72, 73, 70, 84], [61], [60, 62], [60], [62], [85, 60], [48, 61], [48, 60], [87, 73, 84, 72, 73, 78], [85, 77, 42], [77, 42], [85, 77, 47, 77, 79, 68], [70, 77, 47, 77, 79, 68], [83, 77, 47, 82, 69, 77], [83, 62, 68], [68, 43], [68, 78, 69, 71, 65, 84, 69], [67, 69, 76, 76, 83], [67, 69, 76, 76, 43], [67, 72, 65, 82, 43], [65, 76, 73, 71, 78, 69, 68], [64], [33], [67, 64], [67, 33], [43, 33], [70, 73, 76, 76], [77, 79, 86, 69], [67, 65, 83], [69, 77, 73, 84], [84, 89, 80, 69], [46], [85, 46], [67, 82], [83, 80, 65, 67, 69], [60, 35], [35], [35, 83], [72, 79, 76, 68], [83, 73, 71, 78], [35, 62], [66, 65, 83, 69], [68, 69, 67, 73, 77, 65, 76], [72, 69, 88], [77, 69], [84, 73, 67, 75, 83], [80, 65, 85, 83, 69], [83, 76, 69, 69, 80], [66, 89, 69], [78, 79, 84, 69], [67, 82, 69, 65, 84, 69], [40, 68, 79, 69, 83, 41], [72, 69, 82, 69], [65, 76, 76, 79, 84], [44], [67, 79, 77, 80, 73, 76, 69, 44], [73, 77, 77, 69, 68, 73, 65, 84, 69]]
def nmS : Bs := [40, 76, 73, 84, 41, 32, 40, 66, 82, 65, 78, 67, 72, 41, 32, 40, 48, 66, 82, 65, 78, 67, 72, 41, 32, 40, 67, 65, 76, 76, 41, 32, 69, 88, 73, 84, 32, 40, 68, 79, 41, 32, 40, 63, 68, 79, 41, 32, 40, 76, 79, 79, 80, 41, 32, 40, 43, 76, 79, 79, 80, 41, 32, 85, 78, 76, 79, 79, 80, 32, 73, 32, 74, 32, 62, 82, 32, 82, 62, 32, 82, 64, 32, 69, 88, 69, 67, 85, 84, 69, 32, 67, 65, 84, 67, 72, 32, 84, 72, 82, 79, 87, 32, 68, 85, 80, 32, 68, 82, 79, 80, 32, 83, 87, 65, 80, 32, 79, 86, 69, 82, 32, 82, 79, 84, 32, 78, 73, 80, 32, 84, 85, 67, 75, 32, 50, 68, 85, 80, 32, 50, 68, 82, 79, 80, 32, 50, 83, 87, 65, 80, 32, 50, 79, 86, 69, 82, 32, 63, 68, 85, 80, 32, 80, 73, 67, 75, 32, 82, 79, 76, 76, 32, 68, 69, 80, 84, 72, 32, 43, 32, 45, 32, 42, 32, 47, 32, 77, 79, 68, 32, 47, 77, 79, 68, 32, 42, 47, 32, 42, 47, 77, 79, 68, 32, 49, 43, 32, 49, 45, 32, 50, 42, 32, 50, 47, 32, 78, 69, 71, 65, 84, 69, 32, 65, 66, 83, 32, 77, 73, 78, 32, 77, 65, 88, 32, 65, 78, 68, 32, 79, 82, 32, 88, 79, 82, 32, 73, 78, 86, 69, 82, 84, 32, 76, 83, 72, 73, 70, 84, 32, 82, 83, 72, 73, 70, 84, 32, 61, 32, 60, 62, 32, 60, 32, 62, 32, 85, 60, 32, 48, 61, 32, 48, 60, 32, 87, 73, 84, 72, 73, 78, 32, 85, 77, 42, 32, 77, 42, 32, 85, 77, 47, 77, 79, 68, 32, 70, 77, 47, 77, 79, 68, 32, 83, 77, 47, 82, 69, 77, 32, 83, 62, 68, 32, 68, 43, 32, 68, 78, 69, 71, 65, 84, 69, 32, 67, 69, 76, 76, 83, 32, 67, 69, 76, 76, 43, 32, 67, 72, 65, 82, 43, 32, 65, 76, 73, 71, 78, 69, 68, 32, 64, 32, 33, 32, 67, 64, 32, 67, 33, 32, 43, 33, 32, 70, 73, 76, 76, 32, 77, 79, 86, 69, 32, 67, 65, 83, 32, 69, 77, 73, 84, 32, 84, 89, 80, 69, 32, 46, 32, 85, 46, 32, 67, 82, 32, 83, 80, 65, 67, 69, 32, 60, 35, 32, 35, 32, 35, 83, 32, 72, 79, 76, 68, 32, 83, 73, 71, 78, 32, 35, 62, 32, 66, 65, 83, 69, 32, 68, 69, 67, 73, 77, 65, 76, 32, 72, 69, 88, 32, 77, 69, 32, 84, 73, 67, 75, 83, 32, 80, 65, 85, 83, 69, 32, 83, 76, 69, 69, 80, 32, 66, 89, 69, 32, 78, 79, 84, 69, 32, 67, 82, 69, 65, 84, 69, 32, 40, 68, 79, 69, 83, 41, 32, 72, 69, 82, 69, 32, 65, 76, 76, 79, 84, 32, 44, 32, 67, 79, 77, 80, 73, 76, 69, 44, 32, 73, 77, 77, 69, 68, 73, 65, 84, 69]
/-- where each begins in the text of all -/
def posL : List Nat := [0, 6, 15, 25, 32, 37, 42, 48, 55, 63, 70, 72, 74, 77, 80, 83, 91, 97, 103, 107, 112, 117, 122, 126, 130, 135, 140, 146, 152, 158, 163, 168, 173, 179, 181, 183, 185, 187, 191, 196, 199, 205, 208, 211, 214, 217, 224, 228, 232, 236, 240, 243, 247, 254, 261, 268, 270, 273, 275, 277, 280, 283, 286, 293, 297, 300, 307, 314, 321, 325, 328, 336, 342, 348, 354, 362, 364, 366, 369, 372, 375, 380, 385, 389, 394, 399, 401, 404, 407, 413, 416, 418, 421, 426, 431, 434, 439, 447, 451, 454, 460, 466, 472, 476, 481, 488, 495, 500, 506, 508, 517, 526]
theorem words_ok : ∀ i, i < 111 → wordP nmS ((posL.getD i 0 : Nat) : Int) = (nmB.getD i [], posL.getD (i + 1) 0) := by decide +kernel
def encS (l : Bs) : List PV := [sB l]
def slS (l : List Bs) : PV := .sl l.length false (flat encS l)
theorem lenS (l : List Bs) : (flat encS l).length = l.length := by have := flat_length (enc := encS) (es := 1) (fun _ => rfl) l; omega
theorem at_S {l : List Bs} {i : Nat} (hi : i < l.length) : (flat encS l).drop i = sB (l.getD i []) :: flat encS (l.drop (i + 1)) := by
  have := flat_at (enc := encS) (es := 1) (fun _ => rfl) hi
  rw [Nat.mul_one] at this
  rw [this, List.getD_eq_getElem?_getD, List.getElem?_eq_getElem hi]
  rfl
/-- a row of strings, written out -/
theorem fill_row : ∀ (vs pre : List PV) (m : Nat) (z : PV), vs.length = m → (∀ v ∈ vs, v.cellish = true ∧ v.cells = [v]) →
    fillB (pre ++ List.replicate m z) ((vs.zipIdx pre.length).map fun p => (p.2 * 1, 1, p.1)) = some (pre ++ vs)
  | [], pre, m, z, h, _ => by
    obtain rfl : m = 0 := h.symm
    rfl
  | v :: vs, pre, m, z, h, hv => by
    obtain ⟨n, rfl⟩ : ∃ n, m = n + 1 := ⟨vs.length, h.symm⟩
    obtain ⟨h1, h2⟩ := hv v List.mem_cons_self
    have ih := fill_row vs (pre ++ [v]) n z (by simpa using h) fun u hu => hv u (List.mem_cons_of_mem _ hu)
    rw [List.zipIdx_cons, List.map_cons]
    unfold fillB
    rw [if_pos ⟨h1, by rw [h2]; rfl, by simp⟩, h2]
    have e : setRange (pre ++ List.replicate (n + 1) z) (pre.length * 1) [v] = (pre ++ [v]) ++ List.replicate n z := by
      unfold setRange
      rw [Nat.mul_one, List.take_left, List.drop_append, List.drop_eq_nil_of_le (by simp), List.replicate_succ]
      simp
    show fillB (setRange (pre ++ List.replicate (n + 1) z) (pre.length * 1) [v]) _ = _
    rw [e]
    have el : (pre ++ [v]).length = pre.length + 1 := by simp
    rw [el] at ih
    rw [ih]
    simp
theorem peek_strs {H : Heap} : ∀ l : List Bs, peekL H (l.map sB) = some (l.map sB)
  | [] => rfl
  | x :: l => by
    rw [List.map_cons]
    have := peek_strs (H := H) l
    unfold peekL
    rw [this]
    rfl
theorem ids_strs : ∀ l : List Bs, idsL (l.map sB) = []
  | [] => rfl
  | x :: l => by rw [List.map_cons]; unfold idsL; rw [ids_strs l]; rfl
theorem flatS_eq : ∀ l : List Bs, flat encS l = l.map sB
  | [] => rfl
  | x :: l => by
    show encS x ++ flat encS l = _
    rw [flatS_eq l]; rfl
def partsS (l : List Bs) : List (Nat × X) := l.zipIdx.map fun p => (p.2, X.c (sB p.1))
theorem k_strs {cf : CF} {new : Nat} {T : List PV} {H : Heap} {l : List Bs} {n : Nat} (hn : l.length = n) (hs : n ≤ 16777216) {parts : List (Nat × X)} (hp : parts = partsS l) : EK cf (.bslice 1 n [.str ⟨#[]⟩] parts) new T H (.own new 1 0 n) [(new, some (.row (flat encS l)))] := ⟨by
  subst hp
  have e1 : (partsS l).map (fun p => valT T p.2) = l.map sB := by
    unfold partsS
    rw [List.map_map]
    show l.zipIdx.map ((fun x => sB x) ∘ Prod.fst) = _
    rw [← List.map_map, List.zipIdx_map_fst]
  have e2 : ((partsS l).zip (l.map sB)).map (fun p => (p.1.1 * 1, 1, p.2)) = ((l.map sB).zipIdx 0).map fun p => (p.2 * 1, 1, p.1) := by
    unfold partsS
    rw [List.zip_map, List.map_map, List.zipIdx_map, List.map_map]
    have : l.zipIdx.zip l = l.zipIdx.map fun p => (p, p.1) := by
      conv => lhs; arg 2; rw [← List.zipIdx_map_fst 0 l]
      rw [List.zip_map_right]
      generalize l.zipIdx = z
      induction z with
      | nil => rfl
      | cons a z ih => rw [List.zip_cons_cons, List.map_cons, List.map_cons, ih]; rfl
    rw [this, List.map_map]
    rfl
  have e3 : (List.replicate n [PV.str ⟨#[]⟩]).flatten = [] ++ List.replicate n (PV.str ⟨#[]⟩) := by
    rw [List.nil_append]
    clear hn hs
    induction n with
    | zero => rfl
    | succ n ih => rw [List.replicate_succ, List.flatten_cons, ih, List.replicate_succ]; rfl
  have e4 := fill_row (l.map sB) [] n (PV.str ⟨#[]⟩) (by rw [List.length_map, hn]) fun v hv => by
    obtain ⟨x, _, rfl⟩ := List.mem_map.1 hv
    exact ⟨rfl, rfl⟩
  have e5 := flatS_eq l
  simp only [evalK, e1, peek_strs]
  rw [if_pos (by omega), e2, e3]
  rw [show ([] : List PV).length = 0 from rfl] at e4
  rw [e4, ids_strs, e5]
  rfl⟩
theorem k_names {cf : CF} {new : Nat} {T : List PV} {H : Heap} : EK cf (.bslice 1 111 [.str ⟨#[]⟩] [(0, (X.c (.str ⟨#[40, 76, 73, 84, 41]⟩))), (1, (X.c (.str ⟨#[40, 66, 82, 65, 78, 67, 72, 41]⟩))), (2, (X.c (.str ⟨#[40, 48, 66, 82, 65, 78, 67, 72, 41]⟩))), (3, (X.c (.str ⟨#[40, 67, 65, 76, 76, 41]⟩))), (4, (X.c (.str ⟨#[69, 88, 73, 84]⟩))), (5, (X.c (.str ⟨#[40, 68, 79, 41]⟩))), (6, (X.c (.str ⟨#[40, 63, 68, 79, 41]⟩))), (7, (X.c (.str ⟨#[40, 76, 79, 79, 80, 41]⟩))), (8, (X.c (.str ⟨#[40, 43, 76, 79, 79, 80, 41]⟩))), (9, (X.c (.str ⟨#[85, 78, 76, 79, 79, 80]⟩))), (10, (X.c (.str ⟨#[73]⟩))), (11, (X.c (.str ⟨#[74]⟩))), (12, (X.c (.str ⟨#[62, 82]⟩))), (13, (X.c (.str ⟨#[82, 62]⟩))), (14, (X.c (.str ⟨#[82, 64]⟩))), (15, (X.c (.str ⟨#[69, 88, 69, 67, 85, 84, 69]⟩))), (16, (X.c (.str ⟨#[67, 65, 84, 67, 72]⟩))), (17, (X.c (.str ⟨#[84, 72, 82, 79, 87]⟩))), (18, (X.c (.str ⟨#[68, 85, 80]⟩))), (19, (X.c (.str ⟨#[68, 82, 79, 80]⟩))), (20, (X.c (.str ⟨#[83, 87, 65, 80]⟩))), (21, (X.c (.str ⟨#[79, 86, 69, 82]⟩))), (22, (X.c (.str ⟨#[82, 79, 84]⟩))), (23, (X.c (.str ⟨#[78, 73, 80]⟩))), (24, (X.c (.str ⟨#[84, 85, 67, 75]⟩))), (25, (X.c (.str ⟨#[50, 68, 85, 80]⟩))), (26, (X.c (.str ⟨#[50, 68, 82, 79, 80]⟩))), (27, (X.c (.str ⟨#[50, 83, 87, 65, 80]⟩))), (28, (X.c (.str ⟨#[50, 79, 86, 69, 82]⟩))), (29, (X.c (.str ⟨#[63, 68, 85, 80]⟩))), (30, (X.c (.str ⟨#[80, 73, 67, 75]⟩))), (31, (X.c (.str ⟨#[82, 79, 76, 76]⟩))), (32, (X.c (.str ⟨#[68, 69, 80, 84, 72]⟩))), (33, (X.c (.str ⟨#[43]⟩))), (34, (X.c (.str ⟨#[45]⟩))), (35, (X.c (.str ⟨#[42]⟩))), (36, (X.c (.str ⟨#[47]⟩))), (37, (X.c (.str ⟨#[77, 79, 68]⟩))), (38, (X.c (.str ⟨#[47, 77, 79, 68]⟩))), (39, (X.c (.str ⟨#[42, 47]⟩))), (40, (X.c (.str ⟨#[42, 47, 77, 79, 68]⟩))), (41, (X.c (.str ⟨#[49, 43]⟩))), (42, (X.c (.str ⟨#[49, 45]⟩))), (43, (X.c (.str ⟨#[50, 42]⟩))), (44, (X.c (.str ⟨#[50, 47]⟩))), (45, (X.c (.str ⟨#[78, 69, 71, 65, 84, 69]⟩))), (46, (X.c (.str ⟨#[65, 66, 83]⟩))), (47, (X.c (.str ⟨#[77, 73, 78]⟩))), (48, (X.c (.str ⟨#[77, 65, 88]⟩))), (49, (X.c (.str ⟨#[65, 78, 68]⟩))), (50, (X.c (.str ⟨#[79, 82]⟩))), (51, (X.c (.str ⟨#[88, 79, 82]⟩))), (52, (X.c (.str ⟨#[73, 78, 86, 69, 82, 84]⟩))), (53, (X.c (.str ⟨#[76, 83, 72, 73, 70, 84]⟩))), (54, (X.c (.str ⟨#[82, 83, 72, 73, 70, 84]⟩))), (55, (X.c (.str ⟨#[61]⟩))), (56, (X.c (.str ⟨#[60, 62]⟩))), (57, (X.c (.str ⟨#[60]⟩))), (58, (X.c (.str ⟨#[62]⟩))), (59, (X.c (.str ⟨#[85, 60]⟩))), (60, (X.c (.str ⟨#[48, 61]⟩))), (61, (X.c (.str ⟨#[48, 60]⟩))), (62, (X.c (.str ⟨#[87, 73, 84, 72, 73, 78]⟩))), (63, (X.c (.str ⟨#[85, 77, 42]⟩))), (64, (X.c (.str ⟨#[77, 42]⟩))), (65, (X.c (.str ⟨#[85, 77, 47, 77, 79, 68]⟩))), (66, (X.c (.str ⟨#[70, 77, 47, 77, 79, 68]⟩))), (67, (X.c (.str ⟨#[83, 77, 47, 82, 69, 77]⟩))), (68, (X.c (.str ⟨#[83, 62, 68]⟩))), (69, (X.c (.str ⟨#[68, 43]⟩))), (70, (X.c (.str ⟨#[68, 78, 69, 71, 65, 84, 69]⟩))), (71, (X.c (.str ⟨#[67, 69, 76, 76, 83]⟩))), (72, (X.c (.str ⟨#[67, 69, 76, 76, 43]⟩))), (73, (X.c (.str ⟨#[67, 72, 65, 82, 43]⟩))), (74, (X.c (.str ⟨#[65, 76, 73, 71, 78, 69, 68]⟩))), (75, (X.c (.str ⟨#[64]⟩))), (76, (X.c (.str ⟨#[33]⟩))), (77, (X.c (.str ⟨#[67, 64]⟩))), (78, (X.c (.str ⟨#[67, 33]⟩))), (79, (X.c (.str ⟨#[43, 33]⟩))), (80, (X.c (.str ⟨#[70, 73, 76, 76]⟩))), (81, (X.c (.str ⟨#[77, 79, 86, 69]⟩))), (82, (X.c (.str ⟨#[67, 65, 83]⟩))), (83, (X.c (.str ⟨#[69, 77, 73, 84]⟩))), (84, (X.c (.str ⟨#[84, 89, 80, 69]⟩))), (85, (X.c (.str ⟨#[46]⟩))), (86, (X.c (.str ⟨#[85, 46]⟩))), (87, (X.c (.str ⟨#[67, 82]⟩))), (88, (X.c (.str ⟨#[83, 80, 65, 67, 69]⟩))), (89, (X.c (.str ⟨#[60, 35]⟩))), (90, (X.c (.str ⟨#[35]⟩))), (91, (X.c (.str ⟨#[35, 83]⟩))), (92, (X.c (.str ⟨#[72, 79, 76, 68]⟩))), (93, (X.c (.str ⟨#[83, 73, 71, 78]⟩))), (94, (X.c (.str ⟨#[35, 62]⟩))), (95, (X.c (.str ⟨#[66, 65, 83, 69]⟩))), (96, (X.c (.str ⟨#[68, 69, 67, 73, 77, 65, 76]⟩))), (97, (X.c (.str ⟨#[72, 69, 88]⟩))), (98, (X.c (.str ⟨#[77, 69]⟩))), (99, (X.c (.str ⟨#[84, 73, 67, 75, 83]⟩))), (100, (X.c (.str ⟨#[80, 65, 85, 83, 69]⟩))), (101, (X.c (.str ⟨#[83, 76, 69, 69, 80]⟩))), (102, (X.c (.str ⟨#[66, 89, 69]⟩))), (103, (X.c (.str ⟨#[78, 79, 84, 69]⟩))), (104, (X.c (.str ⟨#[67, 82, 69, 65, 84, 69]⟩))), (105, (X.c (.str ⟨#[40, 68, 79, 69, 83, 41]⟩))), (106, (X.c (.str ⟨#[72, 69, 82, 69]⟩))), (107, (X.c (.str ⟨#[65, 76, 76, 79, 84]⟩))), (108, (X.c (.str ⟨#[44]⟩))), (109, (X.c (.str ⟨#[67, 79, 77, 80, 73, 76, 69, 44]⟩))), (110, (X.c (.str ⟨#[73, 77, 77, 69, 68, 73, 65, 84, 69]⟩)))]) new T H (.own new 1 0 111) [(new, some (.row (flat encS nmB)))] := k_strs (l := nmB) rfl (by decide) (by kernel_rfl)
def inV (o : Int) : Bool := decide (0 ≤ o) && decide (o < 111)
def nameV (o : Int) : Bs := if inV o = true then nmB.getD o.toNat [] else []
def hidL (l : Bs) : Bool := match l with | b :: _ => (b.toNat : Int) == 40 | [] => false
def hidV (o : Int) : Bool := hidL (nameV o)
def withinB (n m : Int) : Bool := decide (0 ≤ n) && decide (n ≤ m)
def visV (o : Int) : Bool := withinB o 110 && !hidV o
theorem nameV_nat {k : Nat} (h : k < 111) : nameV (k : Int) = nmB.getD k [] := by
  unfold nameV inV
  rw [decide_eq_true (by omega), decide_eq_true (by omega), Int.toNat_natCast]; rfl
theorem nm_small : ∀ i, i < 111 → (nmB.getD i []).length ≤ 20 := by decide +kernel
theorem nameV_small (o : Int) : (nameV o).length ≤ 20 := by
  unfold nameV
  split
  · next h =>
    unfold inV at h
    simp at h
    exact nm_small _ (by omega)
  · simp
theorem inV_no {o : Int} (h : inV o = false) : nameV o = [] := by unfold nameV; rw [h]; rfl
theorem inV_yes {o : Int} (h : inV o = true) : ∃ k : Nat, o = k ∧ k < 111 := by
  unfold inV at h
  simp at h
  exact ⟨o.toNat, by omega, by omega⟩
section
variable {cf : CF} (hcf : cf = ev env)
include hcf
theorem s36 (n m : Int) : Sp cf 36 [.int .i64 n, .int .i64 m] (.bool (withinB n m)) := by
  refine sp_of hcf env36 ?_
  unfold withinB
  conv => arg 2; simp only [ir36]
  conv => arg 3; simp only [ir36, Go.Proofs.YtbgihgkobojfaaaEv.start, List.length, Nat.reduceAdd, Nat.reduceSub, List.reduceReplicate, List.append_eq, List.cons_append, List.nil_append]
  conv => arg 4; simp only [heapOf]
  try conv => arg 5; simp only [List.length, Nat.reduceAdd]
  try conv => arg 6; simp only [List.length, Nat.reduceAdd]
  by_cases h : 0 ≤ n
  · have h' : n ≥ 0 := h
    rw [decide_eq_true h, Bool.true_and]
    refine EVgo9 (h') trivial trivial trivial trivial trivial trivial trivial trivial trivial trivial trivial ?_
    exact EVret trivial
  · have h' : ¬ n ≥ 0 := h
    rw [decide_eq_false h, Bool.false_and]
    refine EVgo9 (h') trivial trivial trivial trivial trivial trivial trivial trivial trivial trivial trivial ?_
    exact EVret trivial
theorem s33 (n : Int) : Sp cf 33 [.int .i64 n] (.bool (inV n)) := by
  refine sp_of hcf env33 ?_
  unfold inV
  conv => arg 2; simp only [ir33]
  conv => arg 3; simp only [ir33, Go.Proofs.YtbgihgkobojfaaaEv.start, List.length, Nat.reduceAdd, Nat.reduceSub, List.reduceReplicate, List.append_eq, List.cons_append, List.nil_append]
  conv => arg 4; simp only [heapOf]
  try conv => arg 5; simp only [List.length, Nat.reduceAdd]
  try conv => arg 6; simp only [List.length, Nat.reduceAdd]
  by_cases h : 0 ≤ n
  · have h' : n ≥ 0 := h
    rw [decide_eq_true h, Bool.true_and]
    refine EVgo9 (h') trivial trivial trivial trivial trivial trivial trivial trivial trivial trivial trivial ?_
    exact EVret trivial
  · have h' : ¬ n ≥ 0 := h
    rw [decide_eq_false h, Bool.false_and]
    refine EVgo9 (h') trivial trivial trivial trivial trivial trivial trivial trivial trivial trivial trivial ?_
    exact EVret trivial
theorem s51 (n : Int) : Sp cf 51 [.int .i64 n] (.bool (inV n)) := by
  refine sp_of hcf env51 ?_
  unfold inV
  conv => arg 2; simp only [ir51]
  conv => arg 3; simp only [ir51, Go.Proofs.YtbgihgkobojfaaaEv.start, List.length, Nat.reduceAdd, Nat.reduceSub, List.reduceReplicate, List.append_eq, List.cons_append, List.nil_append]
  conv => arg 4; simp only [heapOf]
  try conv => arg 5; simp only [List.length, Nat.reduceAdd]
  try conv => arg 6; simp only [List.length, Nat.reduceAdd]
  by_cases h : 0 ≤ n
  · have h' : n ≥ 0 := h
    rw [decide_eq_true h, Bool.true_and]
    refine EVgo9 (h') trivial trivial trivial trivial trivial trivial trivial trivial trivial trivial trivial ?_
    exact EVret trivial
  · have h' : ¬ n ≥ 0 := h
    rw [decide_eq_false h, Bool.false_and]
    refine EVgo9 (h') trivial trivial trivial trivial trivial trivial trivial trivial trivial trivial trivial ?_
    exact EVret trivial
theorem s34 : Sp cf 34 [] (slS nmB) := by
  refine sp_of hcf env34 ?_
  have ha : (flat encS nmB).take 111 = flat encS nmB := List.take_of_length_le (by rw [lenS]; decide)
  show WC cf _ _ _ _ _ (QFinP ir34 (.sl 111 false (flat encS nmB), []))
  conv => arg 2; simp only [ir34]
  conv => arg 3; simp only [ir34, Go.Proofs.YtbgihgkobojfaaaEv.start, List.length, Nat.reduceAdd, Nat.reduceSub, List.reduceReplicate, List.append_eq, List.cons_append, List.nil_append]
  conv => arg 4; simp only [heapOf]
  try conv => arg 5; simp only [List.length, Nat.reduceAdd]
  try conv => arg 6; simp only [List.length, Nat.reduceAdd]
  refine EVgo9 trivial trivial trivial trivial trivial trivial trivial trivial trivial trivial (@k_names cf) trivial ?_
  exact EVret (ha)
theorem s12 (o : Int) : Sp cf 12 [.int .i64 o] (sB (nameV o)) := by
  have h33 := s33 hcf o
  have h34 := s34 hcf
  refine sp_of hcf env12 ?_
  cases h : inV o with
  | false =>
    rw [h] at h33
    rw [inV_no h]
    conv => arg 2; simp only [ir12]
    conv => arg 3; simp only [ir12, Go.Proofs.YtbgihgkobojfaaaEv.start, List.length, Nat.reduceAdd, Nat.reduceSub, List.reduceReplicate, List.append_eq, List.cons_append, List.nil_append]
    conv => arg 4; simp only [heapOf]
    try conv => arg 5; simp only [List.length, Nat.reduceAdd]
    try conv => arg 6; simp only [List.length, Nat.reduceAdd]
    refine EVgo9 trivial (h33) trivial trivial trivial trivial trivial trivial trivial trivial trivial trivial ?_
    exact EVret trivial
  | true =>
    rw [h] at h33
    obtain ⟨k, rfl, hk⟩ := inV_yes h
    have eK := at_S (l := nmB) (i := k) hk
    rw [nameV_nat hk]
    have h34' : Sp cf 34 [] (.sl 111 false (flat encS nmB)) := h34
    have hlt : (k : Int) < 111 := by omega
    simp only [sB] at eK ⊢
    conv => arg 2; simp only [ir12]
    conv => arg 3; simp only [ir12, Go.Proofs.YtbgihgkobojfaaaEv.start, List.length, Nat.reduceAdd, Nat.reduceSub, List.reduceReplicate, List.append_eq, List.cons_append, List.nil_append]
    conv => arg 4; simp only [heapOf]
    try conv => arg 5; simp only [List.length, Nat.reduceAdd]
    try conv => arg 6; simp only [List.length, Nat.reduceAdd]
    refine EVgo9 (And.intro (hlt) (eK)) (h33) (h34') trivial trivial trivial trivial trivial trivial trivial trivial trivial ?_
    exact EVret trivial
theorem s46 (l : Bs) (hl : l.length ≤ 1000000) : cf 46 [sB l, .str ⟨#[40]⟩] [] = some (.bool (hidL l), []) := by
  refine ev_ofC' hcf env46 ?_
  simp only [sB]
  have h1 : ((⟨#[40]⟩ : ByteArray).size : Int) = 1 := rfl
  have h1' : (⟨#[40]⟩ : ByteArray).size = 1 := rfl
  cases l with
  | nil =>
    have hz : ((([] : Bs).length : Nat) : Int) = 0 := rfl
    conv => arg 2; simp only [ir46]
    conv => arg 3; simp only [ir46, Go.Proofs.YtbgihgkobojfaaaEv.start, List.length, Nat.reduceAdd, Nat.reduceSub, List.reduceReplicate, List.append_eq, List.cons_append, List.nil_append]
    conv => arg 4; simp only [heapOf]
    try conv => arg 5; simp only [List.length, Nat.reduceAdd]
    try conv => arg 6; simp only [List.length, Nat.reduceAdd]
    refine EVgo9 (And.intro (szB) ( And.intro (h1) ( And.intro (h1') (hz)))) trivial trivial trivial trivial trivial trivial trivial trivial trivial trivial trivial ?_
    exact WQ.ret rfl
  | cons b r =>
    have hge : (((b :: r).length : Nat) : Int) ≥ 1 := by simp; omega
    have e : (⟨(b :: r).toArray⟩ : ByteArray).extract 0 1 = ⟨[b].toArray⟩ := by rw [exB]; rfl
    have q : ((⟨[b].toArray⟩ : ByteArray).toList == (⟨#[40]⟩ : ByteArray).toList) = hidL (b :: r) := by
      have := cmpB [b] [40]
      refine this.trans ?_
      show decide ([b] = [40]) = ((b.toNat : Int) == 40)
      by_cases hb : b = 40
      · subst hb; rfl
      · rw [decide_eq_false (by simpa using hb)]
        exact (beq_eq_false_iff_ne.2 fun h => hb (UInt8.toNat_inj.1 (by have : (40 : UInt8).toNat = 40 := rfl; omega))).symm
    generalize hx : hidL (b :: r) = x at *
    generalize (b :: r) = l at *
    conv => arg 2; simp only [ir46]
    conv => arg 3; simp only [ir46, Go.Proofs.YtbgihgkobojfaaaEv.start, List.length, Nat.reduceAdd, Nat.reduceSub, List.reduceReplicate, List.append_eq, List.cons_append, List.nil_append]
    conv => arg 4; simp only [heapOf]
    try conv => arg 5; simp only [List.length, Nat.reduceAdd]
    try conv => arg 6; simp only [List.length, Nat.reduceAdd]
    refine EVgo9 (And.intro (szB) ( And.intro (h1) ( And.intro (h1') ( And.intro (hge) ( And.intro (e) (q)))))) trivial trivial trivial trivial trivial trivial trivial trivial trivial trivial trivial ?_
    exact WQ.ret rfl
theorem s35 (l : Bs) (hl : l.length ≤ 1000000) : cf 35 [sB l, .str ⟨#[40]⟩] [] = some (.bool (hidL l), []) := by
  have h46 := s46 hcf l hl
  refine ev_ofC' hcf env35 ?_
  simp only [sB] at *
  conv => arg 2; simp only [ir35]
  conv => arg 3; simp only [ir35, Go.Proofs.YtbgihgkobojfaaaEv.start, List.length, Nat.reduceAdd, Nat.reduceSub, List.reduceReplicate, List.append_eq, List.cons_append, List.nil_append]
  conv => arg 4; simp only [heapOf]
  try conv => arg 5; simp only [List.length, Nat.reduceAdd]
  try conv => arg 6; simp only [List.length, Nat.reduceAdd]
  refine EVgo9 trivial (h46) trivial trivial trivial trivial trivial trivial trivial trivial trivial trivial ?_
  exact WQ.ret rfl
theorem s13 (o : Int) : Sp cf 13 [.int .i64 o] (.bool (hidV o)) := by
  have h12 := s12 hcf o
  have h35 := s35 hcf (nameV o) (by have := nameV_small o; omega)
  refine sp_of hcf env13 ?_
  unfold hidV
  simp only [sB] at *
  conv => arg 2; simp only [ir13]
  conv => arg 3; simp only [ir13, Go.Proofs.YtbgihgkobojfaaaEv.start, List.length, Nat.reduceAdd, Nat.reduceSub, List.reduceReplicate, List.append_eq, List.cons_append, List.nil_append]
  conv => arg 4; simp only [heapOf]
  try conv => arg 5; simp only [List.length, Nat.reduceAdd]
  try conv => arg 6; simp only [List.length, Nat.reduceAdd]
  refine EVgo9 trivial (h12) (h35) trivial trivial trivial trivial trivial trivial trivial trivial trivial ?_
  exact EVret trivial
theorem s38 (o : Int) : Sp cf 38 [.int .i64 o] (.bool (visV o)) := by
  have h36 := s36 hcf o 110
  have h13 := s13 hcf o
  refine sp_of hcf env38 ?_
  unfold visV
  conv => arg 2; simp only [ir38]
  conv => arg 3; simp only [ir38, Go.Proofs.YtbgihgkobojfaaaEv.start, List.length, Nat.reduceAdd, Nat.reduceSub, List.reduceReplicate, List.append_eq, List.cons_append, List.nil_append]
  conv => arg 4; simp only [heapOf]
  try conv => arg 5; simp only [List.length, Nat.reduceAdd]
  try conv => arg 6; simp only [List.length, Nat.reduceAdd]
  cases h : withinB o 110 with
  | true =>
    rw [h] at h36
    refine EVgo9 trivial (h36) (h13) trivial trivial trivial trivial trivial trivial trivial trivial trivial ?_
    exact EVret trivial
  | false =>
    rw [h] at h36
    refine EVgo9 trivial (h36) trivial trivial trivial trivial trivial trivial trivial trivial trivial trivial ?_
    exact EVret trivial
theorem s52 : Sp cf 52 [] (sB nmS) := by
  refine sp_of hcf env52 ?_
  conv => arg 2; simp only [ir52]
  conv => arg 3; simp only [ir52, Go.Proofs.YtbgihgkobojfaaaEv.start, List.length, Nat.reduceAdd, Nat.reduceSub, List.reduceReplicate, List.append_eq, List.cons_append, List.nil_append]
  conv => arg 4; simp only [heapOf]
  try conv => arg 5; simp only [List.length, Nat.reduceAdd]
  try conv => arg 6; simp only [List.length, Nat.reduceAdd]
  refine EVgo9 trivial trivial trivial trivial trivial trivial trivial trivial trivial trivial trivial trivial ?_
  exact EVret trivial
theorem s49 (o : Int) : Sp cf 49 [.int .i64 o] (sB (nameV o)) := by
  have h51 := s51 hcf o
  have h52 := s52 hcf
  refine sp_of hcf env49 ?_
  cases h : inV o with
  | false =>
    rw [h] at h51
    rw [inV_no h]
    conv => arg 2; simp only [ir49]
    conv => arg 3; simp only [ir49, Go.Proofs.YtbgihgkobojfaaaEv.start, List.length, Nat.reduceAdd, Nat.reduceSub, List.reduceReplicate, List.append_eq, List.cons_append, List.nil_append]
    conv => arg 4; simp only [heapOf]
    try conv => arg 5; simp only [List.length, Nat.reduceAdd]
    try conv => arg 6; simp only [List.length, Nat.reduceAdd]
    refine EVgo9 trivial (h51) trivial trivial trivial trivial trivial trivial trivial trivial trivial trivial ?_
    exact EVret trivial
  | true =>
    rw [h] at h51
    obtain ⟨k, rfl, hk⟩ := inV_yes h
    rw [nameV_nat hk]
    have hS : nmS.length ≤ 1000000 := by decide +kernel
    simp only [sB] at h52 ⊢
    conv => arg 2; simp only [ir49]
    conv => arg 3; simp only [ir49, Go.Proofs.YtbgihgkobojfaaaEv.start, List.length, Nat.reduceAdd, Nat.reduceSub, List.reduceReplicate, List.append_eq, List.cons_append, List.nil_append]
    conv => arg 4; simp only [heapOf]
    try conv => arg 5; simp only [List.length, Nat.reduceAdd]
    try conv => arg 6; simp only [List.length, Nat.reduceAdd]
    refine EVgo9 trivial (h51) (h52) trivial trivial trivial trivial trivial trivial trivial trivial trivial ?_
    refine WC.loop (T' := _) (H' := _) (n' := _) rfl ((?_ : ∀ (d i : Nat), i + d = k →
      WC cf _ (mkT 31 [(0, .int .i64 (k : Nat)), (3, .ptr 0 0), (4, .int .i64 (i : Nat))]) [(0, .box [.str ⟨nmS.toArray⟩, .int .i64 (posL.getD i 0 : Nat)])] 0 1 _) k 0 (by omega))
    intro d
    induction d with
    | zero =>
      intro i hi
      obtain rfl : i = k := by omega
      have h53 := s53 hcf nmS (posL.getD i 0 : Nat) hS
      rw [words_ok i hk] at h53
      simp only [encC, srcE, sB] at h53
      conv => arg 3; simp only [mkT, putT, List.reduceReplicate, List.set]
      refine EVgl9 trivial trivial trivial trivial trivial trivial trivial trivial trivial trivial trivial trivial ?_
      refine EVgo9 trivial (h53) trivial trivial trivial trivial trivial trivial trivial trivial trivial trivial ?_
      exact EVret trivial
    | succ d ih =>
      intro i hi
      have h53 := s53 hcf nmS (posL.getD i 0 : Nat) hS
      rw [words_ok i (by omega)] at h53
      simp only [encC, srcE, sB] at h53
      have hlt : (i : Int) < (k : Int) := by omega
      have hw : IntKind.i64.wrap ((i : Int) + 1) = ((i + 1 : Nat) : Int) := by rw [i64_in _ (by omega)]; simp
      have hih := ih (i + 1) (by omega)
      conv => arg 3; simp only [mkT, putT, List.reduceReplicate, List.set]
      refine EVgo9 (And.intro (hlt) (hw)) (h53) trivial trivial trivial trivial trivial trivial trivial trivial trivial trivial ?_
      exact WC.loop rfl hih
theorem s44 (o : Int) : Sp cf 44 [.int .i64 o] (.bool (hidV o)) := by
  have h49 := s49 hcf o
  have hs := nameV_small o
  refine sp_of hcf env44 ?_
  unfold hidV
  generalize nameV o = l at *
  cases l with
  | nil =>
    have hz : ((([] : Bs).length : Nat) : Int) = 0 := rfl
    simp only [sB] at h49
    conv => arg 2; simp only [ir44]
    conv => arg 3; simp only [ir44, Go.Proofs.YtbgihgkobojfaaaEv.start, List.length, Nat.reduceAdd, Nat.reduceSub, List.reduceReplicate, List.append_eq, List.cons_append, List.nil_append]
    conv => arg 4; simp only [heapOf]
    try conv => arg 5; simp only [List.length, Nat.reduceAdd]
    try conv => arg 6; simp only [List.length, Nat.reduceAdd]
    refine EVgo9 (And.intro (szB) (hz)) (h49) trivial trivial trivial trivial trivial trivial trivial trivial trivial trivial ?_
    exact EVret trivial
  | cons b r =>
    have e : hidL (b :: r) = ((b.toNat : Int) == 40) := rfl
    have h0 : (0 : Int) ≤ 0 := by decide
    have hb : (⟨(b :: r).toArray⟩ : ByteArray)[((0 : Int)).toNat]? = some b := at_B (q := []) (r := r) rfl
    have hgt : (((b :: r).length : Nat) : Int) > 0 := by rw [List.length_cons]; omega
    rw [e]
    generalize (b :: r) = m at *
    simp only [sB] at h49
    conv => arg 2; simp only [ir44]
    conv => arg 3; simp only [ir44, Go.Proofs.YtbgihgkobojfaaaEv.start, List.length, Nat.reduceAdd, Nat.reduceSub, List.reduceReplicate, List.append_eq, List.cons_append, List.nil_append]
    conv => arg 4; simp only [heapOf]
    try conv => arg 5; simp only [List.length, Nat.reduceAdd]
    try conv => arg 6; simp only [List.length, Nat.reduceAdd]
    refine EVgo9 (And.intro (szB) (hgt)) (h49) trivial trivial trivial trivial trivial trivial trivial trivial trivial trivial ?_
    first | refine WO.step (k_index rfl rfl h0 hb) ?_ | refine WOc.step (k_index rfl rfl h0 hb) ?_
    conv => arg 2; simp only [setOpt, List.set, Nat.reduceLT, Int.reduceToNat, List.drop_drop, valT, List.getD_cons_zero, List.getD_cons_succ, Int.reduceLT, Int.reduceLE, Int.reduceAdd, Int.reduceSub, Int.reduceMul, Int.reduceNeg, Int.reduceEq, Int.reduceNe, Int.cast_ofNat_Int, Int.natCast_zero, Int.natCast_one, ge_iff_le, gt_iff_lt, decide_true, decide_false, Bool.not_true, Bool.not_false, Int.toNat_natCast, Nat.sub_zero, Nat.mul_one, Option.isSome_some, Option.isSome_none, Bool.false_eq_true, Bool.and_true, Bool.true_and, Bool.and_false, Bool.false_and, Nat.zero_add, Nat.zero_mul, List.drop_zero, reduceIte, setRange, PV.cells, fillB, List.take, List.drop, List.append_eq, List.cons_append, List.nil_append, List.length, List.map, List.zip, List.zipWith, List.replicate, List.flatten, Nat.reduceAdd, Nat.reduceMul, Nat.reduceSub, PV.mapId, mapIds, Option.map, Blk.mapId, sigN, sigS, hgt]
    try conv => arg 3; simp only [Nat.reduceLT, List.reduceReplicate, List.flatten_cons, List.flatten_nil, List.append_nil, Nat.reduceMul, Nat.mul_one, Nat.one_mul, Nat.zero_mul, Nat.zero_add, List.drop_zero, List.drop_succ_cons, List.drop_nil, List.take_succ_cons, List.take_zero, List.take_nil, List.drop_drop, setRange, PV.cells, valT, List.getD_cons_zero, List.getD_cons_succ, List.take, List.length, Nat.reduceAdd, List.nil_append, applyU, hset, hdel, Nat.reduceEqDiff, reduceIte, List.append_eq, List.cons_append, List.nil_append, frz, rowsOf, updsNew, updsAt, sigN, sigS, PV.mapId, mapIds, Option.map, Blk.mapId, List.drop, heapOf, hgt]
    conv => arg 5; simp only [stride, Nat.reduceAdd]
    refine EVgo9 trivial trivial trivial trivial trivial trivial trivial trivial trivial trivial trivial trivial ?_
    exact EVret trivial
end
end Go.Proofs.YtbgihgkobojfaaaR
