/-
  THE DOCUMENT's STATIONS ASLEEP AND AWAKE: the block of a muezzinref15.Power (its first station is nobody's), and what a store does to it; its ten cells at an index. Conditions: the block is whole ('DPow').
-/
import Derived.Test.YtkklnocbbpaipaaDoorPsWalks3
namespace Go.Proofs.YtkklnocbbpaipaaDoor
open Go.RowKit

def DPow (b : Nat) (w : World) (P : Nat → One) : Prop :=
  ∃ C : Array Value, w.heap[b]? = some (.cells C 54 (0, 0)) ∧ ∀ j, j < 16 → ∀ c, c < 10 → C[10 * (j + 1) + c]? = some (cellOf (P j) c)
section
variable {b : Nat} {w : World} {P : Nat → One}
theorem DPow.cell (h : DPow b w P) (j : Nat) (hj : j < 16) (c : Nat) (hc : c < 10) : w.cell? ⟨b, 10 * (j + 1) + c, none⟩ = some (cellOf (P j) c) := by
  obtain ⟨C, hb, hC⟩ := h
  rw [cell_of_row w b _ _ _ _ hb]; exact hC j hj c hc
theorem DPow.fr (h : DPow b w P) (j : Nat) : w.frozen? ⟨b, j, none⟩ = false := by
  obtain ⟨C, hb, _⟩ := h
  exact frozen_of_row w b j _ _ hb
theorem DPow.lt (h : DPow b w P) : b < w.heap.size := block_lt_of_cell (h.cell 0 (by decide) 0 (by decide))
theorem DPow.gro {row : Option Nat} {w' : World} (h : DPow b w P) (k : Gro row w w') (hr : some b ≠ row) : DPow b w' P := by
  have hlt := h.lt
  obtain ⟨C, hb, hC⟩ := h
  exact ⟨C, (k.block b hlt hr).trans hb, hC⟩
theorem DPow.heap {w' : World} (h : DPow b w P) (k : w'.heap = w.heap) : DPow b w' P := by
  obtain ⟨C, hb, hC⟩ := h
  exact ⟨C, by rw [k]; exact hb, hC⟩
theorem DPow.drewN (h : DPow b w P) (n : Nat) : DPow b (w.drewN n) P := h.heap (by cases n <;> rfl)
theorem DPow.drew (h : DPow b w P) : DPow b w.drew P := h
theorem DPow.alloc (h : DPow b w P) (o : Obj) : DPow b (w.alloc o) P := h.gro ((Gro.refl none _).alloc _) (by simp)
theorem DPow.set (h : DPow b w P) (j : Nat) (hj : j < 16) (c : Nat) (hc : c < 10) (o : One) (v : Value) (hv : cellOf o c = v) (ho : ∀ c', c' < 10 → c' ≠ c → cellOf o c' = cellOf (P j) c') :
    DPow b (w.setCell ⟨b, 10 * (j + 1) + c, none⟩ v) (updP P j o) := by
  obtain ⟨C, hb, hC⟩ := h
  refine ⟨C.setIfInBounds (10 * (j + 1) + c) v, heap_setCell_same w b _ _ _ _ hb, fun j' hj' c' hc' => ?_⟩
  have hlt : 10 * (j + 1) + c < C.size := (Array.getElem?_eq_some_iff.1 (hC j hj c hc)).1
  by_cases e : j' = j
  · subst e
    rw [updP_same]
    by_cases e2 : c' = c
    · subst e2
      rw [Array.getElem?_setIfInBounds, if_pos rfl, if_pos hlt, hv]
    · rw [Array.getElem?_setIfInBounds, if_neg (by omega), hC j' hj' c' hc', ho c' hc' e2]
  · rw [updP_other _ _ _ _ e, Array.getElem?_setIfInBounds, if_neg (by omega), hC j' hj' c' hc']
theorem DPow.s1 (h : DPow b w P) (j : Nat) (hj : j < 16) (x : Bool) : DPow b (w.setCell ⟨b, 10 * (j + 1) + 1, none⟩ (.bool x)) (updP P j { P j with sl := x }) :=
  h.set j hj 1 (by decide) _ _ rfl (cells10 (Q := fun c' => c' ≠ 1 → cellOf { P j with sl := x } c' = cellOf (P j) c') (fun _ => rfl) (fun e => absurd rfl e) (fun _ => rfl) (fun _ => rfl) (fun _ => rfl) (fun _ => rfl) (fun _ => rfl) (fun _ => rfl) (fun _ => rfl) (fun _ => rfl))
theorem DPow.s2 (h : DPow b w P) (j : Nat) (hj : j < 16) (x : Bool) : DPow b (w.setCell ⟨b, 10 * (j + 1) + 2, none⟩ (.bool x)) (updP P j { P j with po := x }) :=
  h.set j hj 2 (by decide) _ _ rfl (cells10 (Q := fun c' => c' ≠ 2 → cellOf { P j with po := x } c' = cellOf (P j) c') (fun _ => rfl) (fun _ => rfl) (fun e => absurd rfl e) (fun _ => rfl) (fun _ => rfl) (fun _ => rfl) (fun _ => rfl) (fun _ => rfl) (fun _ => rfl) (fun _ => rfl))
theorem DPow.s3 (h : DPow b w P) (j : Nat) (hj : j < 16) (x : Bool) : DPow b (w.setCell ⟨b, 10 * (j + 1) + 3, none⟩ (.bool x)) (updP P j { P j with op := x }) :=
  h.set j hj 3 (by decide) _ _ rfl (cells10 (Q := fun c' => c' ≠ 3 → cellOf { P j with op := x } c' = cellOf (P j) c') (fun _ => rfl) (fun _ => rfl) (fun _ => rfl) (fun e => absurd rfl e) (fun _ => rfl) (fun _ => rfl) (fun _ => rfl) (fun _ => rfl) (fun _ => rfl) (fun _ => rfl))
theorem DPow.s9 (h : DPow b w P) (j : Nat) (hj : j < 16) (x : Int) : DPow b (w.setCell ⟨b, 10 * (j + 1) + 9, none⟩ (.int .i64 x)) (updP P j { P j with left := x }) :=
  h.set j hj 9 (by decide) _ _ rfl (cells10 (Q := fun c' => c' ≠ 9 → cellOf { P j with left := x } c' = cellOf (P j) c') (fun _ => rfl) (fun _ => rfl) (fun _ => rfl) (fun _ => rfl) (fun _ => rfl) (fun _ => rfl) (fun _ => rfl) (fun _ => rfl) (fun _ => rfl) (fun e => absurd rfl e))
/-- Ten stores: a whole station. -/
theorem DPow.all (h : DPow b w P) (j : Nat) (hj : j < 16) (o : One) :
    DPow b ((((((((((w.setCell ⟨b, 10 * (j + 1), none⟩ (cellOf o 0)).setCell ⟨b, 10 * (j + 1) + 1, none⟩ (cellOf o 1)).setCell ⟨b, 10 * (j + 1) + 2, none⟩ (cellOf o 2)).setCell ⟨b, 10 * (j + 1) + 3, none⟩ (cellOf o 3)).setCell ⟨b, 10 * (j + 1) + 4, none⟩ (cellOf o 4)).setCell ⟨b, 10 * (j + 1) + 5, none⟩ (cellOf o 5)).setCell ⟨b, 10 * (j + 1) + 6, none⟩ (cellOf o 6)).setCell ⟨b, 10 * (j + 1) + 7, none⟩ (cellOf o 7)).setCell ⟨b, 10 * (j + 1) + 8, none⟩ (cellOf o 8)).setCell ⟨b, 10 * (j + 1) + 9, none⟩ (cellOf o 9)) (updP P j o) := by
  obtain ⟨C, hb, hC⟩ := h
  have hlt : 10 * (j + 1) + 9 < C.size := (Array.getElem?_eq_some_iff.1 (hC j hj 9 (by decide))).1
  refine ⟨((((((((((C.setIfInBounds (10 * (j + 1)) (cellOf o 0)).setIfInBounds (10 * (j + 1) + 1) (cellOf o 1)).setIfInBounds (10 * (j + 1) + 2) (cellOf o 2)).setIfInBounds (10 * (j + 1) + 3) (cellOf o 3)).setIfInBounds (10 * (j + 1) + 4) (cellOf o 4)).setIfInBounds (10 * (j + 1) + 5) (cellOf o 5)).setIfInBounds (10 * (j + 1) + 6) (cellOf o 6)).setIfInBounds (10 * (j + 1) + 7) (cellOf o 7)).setIfInBounds (10 * (j + 1) + 8) (cellOf o 8)).setIfInBounds (10 * (j + 1) + 9) (cellOf o 9)),
    heap_setCell_same _ b _ _ _ _ (heap_setCell_same _ b _ _ _ _ (heap_setCell_same _ b _ _ _ _ (heap_setCell_same _ b _ _ _ _ (heap_setCell_same _ b _ _ _ _ (heap_setCell_same _ b _ _ _ _ (heap_setCell_same _ b _ _ _ _ (heap_setCell_same _ b _ _ _ _ (heap_setCell_same _ b _ _ _ _ (heap_setCell_same _ b _ _ _ _ hb))))))))), fun j' hj' c' hc' => ?_⟩
  by_cases e : j' = j
  · subst e
    rw [updP_same]
    rcases (show c' = 0 ∨ c' = 1 ∨ c' = 2 ∨ c' = 3 ∨ c' = 4 ∨ c' = 5 ∨ c' = 6 ∨ c' = 7 ∨ c' = 8 ∨ c' = 9 from by omega) with rfl | rfl | rfl | rfl | rfl | rfl | rfl | rfl | rfl | rfl
    all_goals simp [Array.getElem?_setIfInBounds]
    all_goals omega
  · rw [updP_other _ _ _ _ e, ← hC j' hj' c' hc']
    repeat rw [Array.getElem?_setIfInBounds, if_neg (by omega)]
end

theorem DPow.ten {b : Nat} {w : World} {P : Nat → One} (h : DPow b w P) (j : Nat) (hj : j < 16) : Ten w b (10 * (j + 1)) (P j) := by
  refine ⟨h.cell j hj 0 (by decide), h.cell j hj 1 (by decide), h.cell j hj 2 (by decide), h.cell j hj 3 (by decide), fun ac h0 h4 => ?_, h.cell j hj 8 (by decide), h.cell j hj 9 (by decide), h.fr⟩
  rcases (show ac = 0 ∨ ac = 1 ∨ ac = 2 ∨ ac = 3 from by omega) with rfl | rfl | rfl | rfl
  · exact h.cell j hj 4 (by decide)
  · exact h.cell j hj 5 (by decide)
  · exact h.cell j hj 6 (by decide)
  · exact h.cell j hj 7 (by decide)
end Go.Proofs.YtkklnocbbpaipaaDoor
