/-
  THE DOCUMENT's TABLE OF CHAPTER 22 (muezzinref15.Table): its hundred and thirty-six cells, told by the same sixteen as the code's. Conditions: the block is whole ('DTab').
-/
import Derived.Test.YtiegcfgedhgpnaaDoorStaAll
import Derived.Test.YtiegcfgedhgpnaaDoorRow
namespace Go.Proofs.YtiegcfgedhgpnaaDoor
open Go.RowKit

/-- Six bytes of an address. -/
def acell (a : Ad) : Nat → Value
  | 0 => .int .u8 a.b0
  | 1 => .int .u8 a.b1
  | 2 => .int .u8 a.b2
  | 3 => .int .u8 a.b3
  | 4 => .int .u8 a.b4
  | _ => .int .u8 a.b5
/-- A hundred and thirty-six cells that are the document's table: number j + 1 is as the sixteen's j. -/
def DTabC (C : Array Value) (T : Nat → Sone) : Prop :=
  C.size = 136 ∧ ∀ j, j < 16 → (∀ c, c < 6 → C[6 * (j + 1) + c]? = some (acell (T j).a c)) ∧ C[103 + j]? = some (.bool (T j).th) ∧ C[120 + j]? = some (.int .i64 (T j).ep)
def DTab (b : Nat) (w : World) (T : Nat → Sone) : Prop := ∃ C : Array Value, w.heap[b]? = some (.cells C 54 (0, 0)) ∧ DTabC C T
section
variable {b : Nat} {w : World} {T : Nat → Sone}
theorem DTab.addr (h : DTab b w T) (j : Nat) (hj : j < 16) (c : Nat) (hc : c < 6) : w.cell? ⟨b, 6 * (j + 1) + c, none⟩ = some (acell (T j).a c) := by
  obtain ⟨C, hb, _, hC⟩ := h
  rw [cell_of_row w b _ _ _ _ hb]
  exact (hC j hj).1 c hc
theorem DTab.there (h : DTab b w T) (j : Nat) (hj : j < 16) : w.cell? ⟨b, 103 + j, none⟩ = some (.bool (T j).th) := by
  obtain ⟨C, hb, _, hC⟩ := h
  rw [cell_of_row w b _ _ _ _ hb]
  exact (hC j hj).2.1
theorem DTab.epoch (h : DTab b w T) (j : Nat) (hj : j < 16) : w.cell? ⟨b, 120 + j, none⟩ = some (.int .i64 (T j).ep) := by
  obtain ⟨C, hb, _, hC⟩ := h
  rw [cell_of_row w b _ _ _ _ hb]
  exact (hC j hj).2.2
theorem DTab.fr (h : DTab b w T) (j : Nat) : w.frozen? ⟨b, j, none⟩ = false := by
  obtain ⟨C, hb, _⟩ := h
  exact frozen_of_row w b j _ _ hb
theorem DTab.lt (h : DTab b w T) : b < w.heap.size := block_lt_of_cell (h.there 0 (by decide))
theorem DTab.gro {row : Option Nat} {w' : World} (h : DTab b w T) (k : Gro row w w') (hr : some b ≠ row) : DTab b w' T := by
  have hlt := h.lt
  obtain ⟨C, hb, hC⟩ := h
  exact ⟨C, (k.block b hlt hr).trans hb, hC⟩
/-- One is there, or no more. -/
theorem DTab.setThere (h : DTab b w T) (j : Nat) (hj : j < 16) (x : Bool) : DTab b (w.setCell ⟨b, 103 + j, none⟩ (.bool x)) (updT T j { T j with th := x }) := by
  obtain ⟨C, hb, hs, hC⟩ := h
  refine ⟨C.setIfInBounds (103 + j) (.bool x), heap_setCell_same w b _ _ _ _ hb, by simp [hs], fun j' hj' => ?_⟩
  obtain ⟨h1, h2, h3⟩ := hC j' hj'
  by_cases e : j' = j
  · subst e
    rw [updT_same]
    refine ⟨fun c hc => ?_, ?_, ?_⟩
    · rw [Array.getElem?_setIfInBounds, if_neg (by omega)]
      exact h1 c hc
    · rw [Array.getElem?_setIfInBounds, if_pos rfl, if_pos (by omega)]
    · rw [Array.getElem?_setIfInBounds, if_neg (by omega)]
      exact h3
  · rw [updT_other _ _ _ _ e]
    refine ⟨fun c hc => ?_, ?_, ?_⟩
    · rw [Array.getElem?_setIfInBounds, if_neg (by omega)]
      exact h1 c hc
    · rw [Array.getElem?_setIfInBounds, if_neg (by omega)]
      exact h2
    · rw [Array.getElem?_setIfInBounds, if_neg (by omega)]
      exact h3
theorem DTab.setEpoch (h : DTab b w T) (j : Nat) (hj : j < 16) (x : Int) : DTab b (w.setCell ⟨b, 120 + j, none⟩ (.int .i64 x)) (updT T j { T j with ep := x }) := by
  obtain ⟨C, hb, hs, hC⟩ := h
  refine ⟨C.setIfInBounds (120 + j) (.int .i64 x), heap_setCell_same w b _ _ _ _ hb, by simp [hs], fun j' hj' => ?_⟩
  obtain ⟨h1, h2, h3⟩ := hC j' hj'
  by_cases e : j' = j
  · subst e
    rw [updT_same]
    refine ⟨fun c hc => ?_, ?_, ?_⟩
    · rw [Array.getElem?_setIfInBounds, if_neg (by omega)]
      exact h1 c hc
    · rw [Array.getElem?_setIfInBounds, if_neg (by omega)]
      exact h2
    · rw [Array.getElem?_setIfInBounds, if_pos rfl, if_pos (by omega)]
  · rw [updT_other _ _ _ _ e]
    refine ⟨fun c hc => ?_, ?_, ?_⟩
    · rw [Array.getElem?_setIfInBounds, if_neg (by omega)]
      exact h1 c hc
    · rw [Array.getElem?_setIfInBounds, if_neg (by omega)]
      exact h2
    · rw [Array.getElem?_setIfInBounds, if_neg (by omega)]
      exact h3
/-- Another address: six cells stored. -/
theorem DTab.setAddr (h : DTab b w T) (j : Nat) (hj : j < 16) (a : Ad) : DTab b (w.setCells b (6 * (j + 1)) [.int .u8 a.b0, .int .u8 a.b1, .int .u8 a.b2, .int .u8 a.b3, .int .u8 a.b4, .int .u8 a.b5]) (updT T j { T j with a := a }) := by
  obtain ⟨C, hb, hs, hC⟩ := h
  refine ⟨_, heap_setCells_row b _ _ w _ C hb, by rw [setL_size]; exact hs, fun j' hj' => ?_⟩
  obtain ⟨h1, h2, h3⟩ := hC j' hj'
  simp only [setL]
  by_cases e : j' = j
  · subst e
    rw [updT_same]
    refine ⟨fun c hc => ?_, ?_, ?_⟩
    · rcases (show c = 0 ∨ c = 1 ∨ c = 2 ∨ c = 3 ∨ c = 4 ∨ c = 5 from by omega) with rfl | rfl | rfl | rfl | rfl | rfl
      all_goals repeat rw [Array.getElem?_setIfInBounds, if_neg (by omega)]
      all_goals rw [Array.getElem?_setIfInBounds, if_pos (by omega), if_pos (by simp only [Array.size_setIfInBounds, hs]; omega)]
      all_goals rfl
    · repeat rw [Array.getElem?_setIfInBounds, if_neg (by omega)]
      exact h2
    · repeat rw [Array.getElem?_setIfInBounds, if_neg (by omega)]
      exact h3
  · rw [updT_other _ _ _ _ e]
    refine ⟨fun c hc => ?_, ?_, ?_⟩
    · repeat rw [Array.getElem?_setIfInBounds, if_neg (by omega)]
      exact h1 c hc
    · repeat rw [Array.getElem?_setIfInBounds, if_neg (by omega)]
      exact h2
    · repeat rw [Array.getElem?_setIfInBounds, if_neg (by omega)]
      exact h3
end
end Go.Proofs.YtiegcfgedhgpnaaDoor
