/-
  STATIONS ASLEEP AND AWAKE: the block of a ps.Power, and what a store does to it. Conditions: the block is whole ('Pow').
-/
import Derived.Test.YtkklnocbbpaipaaDoorSent
namespace Go.Proofs.YtkklnocbbpaipaaDoor
open Go.RowKit

/-- One station. -/
structure One where
  th : Bool
  sl : Bool
  po : Bool
  op : Bool
  u0 : Bool
  u1 : Bool
  u2 : Bool
  u3 : Bool
  most : Int
  left : Int
def One.zero : One := ⟨false, false, false, false, false, false, false, false, 0, 0⟩
/-- Its cells. -/
def cellOf (o : One) : Nat → Value
  | 0 => .bool o.th
  | 1 => .bool o.sl
  | 2 => .bool o.po
  | 3 => .bool o.op
  | 4 => .bool o.u0
  | 5 => .bool o.u1
  | 6 => .bool o.u2
  | 7 => .bool o.u3
  | 8 => .int .i64 o.most
  | _ => .int .i64 o.left
def updP (P : Nat → One) (j : Nat) (o : One) : Nat → One := fun i => if i = j then o else P i
theorem updP_same (P : Nat → One) (j : Nat) (o : One) : updP P j o j = o := by simp [updP]
theorem updP_other (P : Nat → One) (i j : Nat) (o : One) (h : i ≠ j) : updP P j o i = P i := by simp [updP, h]
theorem updP_self (P : Nat → One) (j : Nat) : updP P j (P j) = P := by
  funext i; unfold updP; split
  · rename_i h; rw [h]
  · rfl
theorem updP_updP (P : Nat → One) (j : Nat) (o o' : One) : updP (updP P j o) j o' = updP P j o' := by
  funext i; unfold updP; split <;> rfl

def Pow (b : Nat) (w : World) (P : Nat → One) : Prop :=
  ∃ C : Array Value, w.heap[b]? = some (.cells C 29 (0, 0)) ∧ ∀ j, j < 16 → ∀ c, c < 10 → C[10 * j + c]? = some (cellOf (P j) c)
section
variable {b : Nat} {w : World} {P : Nat → One}
theorem Pow.cell (h : Pow b w P) (j : Nat) (hj : j < 16) (c : Nat) (hc : c < 10) : w.cell? ⟨b, 10 * j + c, none⟩ = some (cellOf (P j) c) := by
  obtain ⟨C, hb, hC⟩ := h
  rw [cell_of_row w b _ _ _ _ hb]; exact hC j hj c hc
theorem Pow.fr (h : Pow b w P) (j : Nat) : w.frozen? ⟨b, j, none⟩ = false := by
  obtain ⟨C, hb, _⟩ := h
  exact frozen_of_row w b j _ _ hb
theorem Pow.lt (h : Pow b w P) : b < w.heap.size := block_lt_of_cell (h.cell 0 (by decide) 0 (by decide))
theorem Pow.gro {row : Option Nat} {w' : World} (h : Pow b w P) (k : Gro row w w') (hr : some b ≠ row) : Pow b w' P := by
  have hlt := h.lt
  obtain ⟨C, hb, hC⟩ := h
  exact ⟨C, (k.block b hlt hr).trans hb, hC⟩
theorem Pow.heap {w' : World} (h : Pow b w P) (k : w'.heap = w.heap) : Pow b w' P := by
  obtain ⟨C, hb, hC⟩ := h
  exact ⟨C, by rw [k]; exact hb, hC⟩
theorem Pow.drewN (h : Pow b w P) (n : Nat) : Pow b (w.drewN n) P := h.heap (by cases n <;> rfl)
theorem Pow.drew (h : Pow b w P) : Pow b w.drew P := h
theorem Pow.alloc (h : Pow b w P) (o : Obj) : Pow b (w.alloc o) P := h.gro ((Gro.refl none _).alloc _) (by simp)
theorem Pow.set (h : Pow b w P) (j : Nat) (hj : j < 16) (c : Nat) (hc : c < 10) (o : One) (v : Value) (hv : cellOf o c = v) (ho : ∀ c', c' < 10 → c' ≠ c → cellOf o c' = cellOf (P j) c') :
    Pow b (w.setCell ⟨b, 10 * j + c, none⟩ v) (updP P j o) := by
  obtain ⟨C, hb, hC⟩ := h
  refine ⟨C.setIfInBounds (10 * j + c) v, heap_setCell_same w b _ _ _ _ hb, fun j' hj' c' hc' => ?_⟩
  have hlt : 10 * j + c < C.size := (Array.getElem?_eq_some_iff.1 (hC j hj c hc)).1
  by_cases e : j' = j
  · subst e
    rw [updP_same]
    by_cases e2 : c' = c
    · subst e2
      rw [Array.getElem?_setIfInBounds, if_pos rfl, if_pos hlt, hv]
    · rw [Array.getElem?_setIfInBounds, if_neg (by omega), hC j' hj' c' hc', ho c' hc' e2]
  · rw [updP_other _ _ _ _ e, Array.getElem?_setIfInBounds, if_neg (by omega), hC j' hj' c' hc']
theorem cells10 {Q : Nat → Prop} (h0 : Q 0) (h1 : Q 1) (h2 : Q 2) (h3 : Q 3) (h4 : Q 4) (h5 : Q 5) (h6 : Q 6) (h7 : Q 7) (h8 : Q 8) (h9 : Q 9) (c : Nat) (h : c < 10) : Q c := by
  rcases (show c = 0 ∨ c = 1 ∨ c = 2 ∨ c = 3 ∨ c = 4 ∨ c = 5 ∨ c = 6 ∨ c = 7 ∨ c = 8 ∨ c = 9 from by omega) with rfl | rfl | rfl | rfl | rfl | rfl | rfl | rfl | rfl | rfl
  all_goals assumption
theorem Pow.s1 (h : Pow b w P) (j : Nat) (hj : j < 16) (x : Bool) : Pow b (w.setCell ⟨b, 10 * j + 1, none⟩ (.bool x)) (updP P j { P j with sl := x }) :=
  h.set j hj 1 (by decide) _ _ rfl (cells10 (Q := fun c' => c' ≠ 1 → cellOf { P j with sl := x } c' = cellOf (P j) c') (fun _ => rfl) (fun e => absurd rfl e) (fun _ => rfl) (fun _ => rfl) (fun _ => rfl) (fun _ => rfl) (fun _ => rfl) (fun _ => rfl) (fun _ => rfl) (fun _ => rfl))
theorem Pow.s2 (h : Pow b w P) (j : Nat) (hj : j < 16) (x : Bool) : Pow b (w.setCell ⟨b, 10 * j + 2, none⟩ (.bool x)) (updP P j { P j with po := x }) :=
  h.set j hj 2 (by decide) _ _ rfl (cells10 (Q := fun c' => c' ≠ 2 → cellOf { P j with po := x } c' = cellOf (P j) c') (fun _ => rfl) (fun _ => rfl) (fun e => absurd rfl e) (fun _ => rfl) (fun _ => rfl) (fun _ => rfl) (fun _ => rfl) (fun _ => rfl) (fun _ => rfl) (fun _ => rfl))
theorem Pow.s3 (h : Pow b w P) (j : Nat) (hj : j < 16) (x : Bool) : Pow b (w.setCell ⟨b, 10 * j + 3, none⟩ (.bool x)) (updP P j { P j with op := x }) :=
  h.set j hj 3 (by decide) _ _ rfl (cells10 (Q := fun c' => c' ≠ 3 → cellOf { P j with op := x } c' = cellOf (P j) c') (fun _ => rfl) (fun _ => rfl) (fun _ => rfl) (fun e => absurd rfl e) (fun _ => rfl) (fun _ => rfl) (fun _ => rfl) (fun _ => rfl) (fun _ => rfl) (fun _ => rfl))
theorem Pow.s9 (h : Pow b w P) (j : Nat) (hj : j < 16) (x : Int) : Pow b (w.setCell ⟨b, 10 * j + 9, none⟩ (.int .i64 x)) (updP P j { P j with left := x }) :=
  h.set j hj 9 (by decide) _ _ rfl (cells10 (Q := fun c' => c' ≠ 9 → cellOf { P j with left := x } c' = cellOf (P j) c') (fun _ => rfl) (fun _ => rfl) (fun _ => rfl) (fun _ => rfl) (fun _ => rfl) (fun _ => rfl) (fun _ => rfl) (fun _ => rfl) (fun _ => rfl) (fun e => absurd rfl e))
/-- Ten stores: a whole station. -/
theorem Pow.all (h : Pow b w P) (j : Nat) (hj : j < 16) (o : One) :
    Pow b ((((((((((w.setCell ⟨b, 10 * j, none⟩ (cellOf o 0)).setCell ⟨b, 10 * j + 1, none⟩ (cellOf o 1)).setCell ⟨b, 10 * j + 2, none⟩ (cellOf o 2)).setCell ⟨b, 10 * j + 3, none⟩ (cellOf o 3)).setCell ⟨b, 10 * j + 4, none⟩ (cellOf o 4)).setCell ⟨b, 10 * j + 5, none⟩ (cellOf o 5)).setCell ⟨b, 10 * j + 6, none⟩ (cellOf o 6)).setCell ⟨b, 10 * j + 7, none⟩ (cellOf o 7)).setCell ⟨b, 10 * j + 8, none⟩ (cellOf o 8)).setCell ⟨b, 10 * j + 9, none⟩ (cellOf o 9)) (updP P j o) := by
  obtain ⟨C, hb, hC⟩ := h
  have hlt : 10 * j + 9 < C.size := (Array.getElem?_eq_some_iff.1 (hC j hj 9 (by decide))).1
  refine ⟨((((((((((C.setIfInBounds (10 * j) (cellOf o 0)).setIfInBounds (10 * j + 1) (cellOf o 1)).setIfInBounds (10 * j + 2) (cellOf o 2)).setIfInBounds (10 * j + 3) (cellOf o 3)).setIfInBounds (10 * j + 4) (cellOf o 4)).setIfInBounds (10 * j + 5) (cellOf o 5)).setIfInBounds (10 * j + 6) (cellOf o 6)).setIfInBounds (10 * j + 7) (cellOf o 7)).setIfInBounds (10 * j + 8) (cellOf o 8)).setIfInBounds (10 * j + 9) (cellOf o 9)),
    heap_setCell_same _ b _ _ _ _ (heap_setCell_same _ b _ _ _ _ (heap_setCell_same _ b _ _ _ _ (heap_setCell_same _ b _ _ _ _ (heap_setCell_same _ b _ _ _ _ (heap_setCell_same _ b _ _ _ _ (heap_setCell_same _ b _ _ _ _ (heap_setCell_same _ b _ _ _ _ (heap_setCell_same _ b _ _ _ _ (heap_setCell_same _ b _ _ _ _ hb))))))))), fun j' hj' c' hc' => ?_⟩
  by_cases e : j' = j
  · subst e
    rw [updP_same]
    rcases (show c' = 0 ∨ c' = 1 ∨ c' = 2 ∨ c' = 3 ∨ c' = 4 ∨ c' = 5 ∨ c' = 6 ∨ c' = 7 ∨ c' = 8 ∨ c' = 9 from by omega) with rfl | rfl | rfl | rfl | rfl | rfl | rfl | rfl | rfl | rfl
    all_goals simp [Array.getElem?_setIfInBounds]
    all_goals omega
  · rw [updP_other _ _ _ _ e, ← hC j' hj' c' hc']
    repeat rw [Array.getElem?_setIfInBounds, if_neg (by omega)]
end
end Go.Proofs.YtkklnocbbpaipaaDoor
