/-
  FOUR OF THE SENTINELS: what ctl's readers load. Conditions: the given rows' own list.
-/
import Derived.Test.YtflckkeaakmojaaDoorRows
import Derived.Test.YtflckkeaakmojaaDoorSent
import Derived.Test.YtflckkeaakmojaaDoorSentLaid
namespace Go.Proofs.YtflckkeaakmojaaDoor
open Go.ChangeShapes Go.WideShapes Go.ChangeAt Go.WideMaps Go.WideElems Go.RowKit

structure Four (B : Nat) (w : World) (A : Nat → Addr) : Prop where
  c0 : w.cell? ⟨2, 0, none⟩ = some (.iface 89 (.pointer (some (A 0))))
  c1 : w.cell? ⟨1, 0, none⟩ = some (.iface 89 (.pointer (some (A 1))))
  c2 : w.cell? ⟨0, 0, none⟩ = some (.iface 89 (.pointer (some (A 2))))
  c4 : w.cell? ⟨3, 0, none⟩ = some (.iface 89 (.pointer (some (A 4))))
  big : 2 < B ∧ 1 < B ∧ 0 < B ∧ 3 < B
theorem Sent.four {B : Nat} {w : World} {A : Nat → Addr} (h : Sent B w A) : Four B w A := ⟨h.c0, h.c1, h.c2, h.c4, by have := h.big; omega⟩
theorem Four.far {B : Nat} {w w' : World} {A : Nat → Addr} (h : Four B w A) (k : ∀ i, i < B → w'.heap[i]? = w.heap[i]?) : Four B w' A :=
  ⟨(World.cell?_of_block (w := w) (k _ h.big.1)).trans h.c0, (World.cell?_of_block (w := w) (k _ h.big.2.1)).trans h.c1, (World.cell?_of_block (w := w) (k _ h.big.2.2.1)).trans h.c2, (World.cell?_of_block (w := w) (k _ h.big.2.2.2)).trans h.c4, h.big⟩
def laid4 : List (String × DataW Unit) := [("muezzin/api.ErrEnd", Rows.laid_muezzin_api_ErrEnd), ("muezzin/api.ErrShape", Rows.laid_muezzin_api_ErrShape), ("muezzin/api.ErrRange", Rows.laid_muezzin_api_ErrRange), ("muezzin/api.ErrKind", Rows.laid_muezzin_api_ErrKind)]
theorem four_of_laid {W : World} (h0 : laidMetH Tryd.prog laid4 W) : ∃ A, Four W.heap.size W A := by
  rw [MakeChecks.laidMetH_plain _ _ _ (by kernel_rfl)] at h0
  obtain ⟨⟨a0, s0, c0, x0, t0, b0⟩, h1⟩ := laid_head h0 (show Tryd.prog.globalNamed "muezzin/api.ErrEnd" = some 2 by kernel_rfl) (by kernel_rfl)
  obtain ⟨⟨a1, s1, c1, x1, t1, b1⟩, h2⟩ := laid_head h1 (show Tryd.prog.globalNamed "muezzin/api.ErrShape" = some 1 by kernel_rfl) (by kernel_rfl)
  obtain ⟨⟨a2, s2, c2, x2, t2, b2⟩, h3⟩ := laid_head h2 (show Tryd.prog.globalNamed "muezzin/api.ErrRange" = some 0 by kernel_rfl) (by kernel_rfl)
  obtain ⟨⟨a4, s4, c4, x4, t4, b4⟩, h4⟩ := laid_head h3 (show Tryd.prog.globalNamed "muezzin/api.ErrKind" = some 3 by kernel_rfl) (by kernel_rfl)
  exact ⟨pick14 a0 a1 a2 a0 a4 a0 a0 a0 a0 a0 a0 a0 a0 a0, c0, c1, c2, c4, block_lt_of_cell c0, block_lt_of_cell c1, block_lt_of_cell c2, block_lt_of_cell c4⟩
end Go.Proofs.YtflckkeaakmojaaDoor
