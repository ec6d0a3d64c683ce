/-
  ErrState ALONE, out of a row's list. Conditions: the given rows' own list.
-/
import Derived.Test.YtkklnocbbpaipaaDoorSentLaid
namespace Go.Proofs.YtkklnocbbpaipaaDoor
open Go.ChangeShapes Go.WideShapes Go.ChangeAt Go.WideMaps Go.WideElems Go.RowKit

def laid4 : List (String × DataW Unit) := [("muezzin/api.ErrRange", Rows.laid_muezzin_api_ErrRange), ("muezzin/api.ErrNone", Rows.laid_muezzin_api_ErrNone), ("muezzin/api.ErrTwice", Rows.laid_muezzin_api_ErrTwice), ("muezzin/api.ErrState", Rows.laid_muezzin_api_ErrState)]
theorem state_of_laid {W : World} (h0 : laidMetH Tryd.prog laid4 W) : ∃ v, W.cell? ⟨3, 0, none⟩ = some v := by
  rw [MakeChecks.laidMetH_plain _ _ _ (by kernel_rfl)] at h0
  obtain ⟨_, h1⟩ := laid_head h0 (show Tryd.prog.globalNamed "muezzin/api.ErrRange" = some 0 by kernel_rfl) (by kernel_rfl)
  obtain ⟨_, h2⟩ := laid_head h1 (show Tryd.prog.globalNamed "muezzin/api.ErrNone" = some 2 by kernel_rfl) (by kernel_rfl)
  obtain ⟨_, h3⟩ := laid_head h2 (show Tryd.prog.globalNamed "muezzin/api.ErrTwice" = some 1 by kernel_rfl) (by kernel_rfl)
  obtain ⟨⟨a, s, hc, _⟩, _⟩ := laid_head h3 (show Tryd.prog.globalNamed "muezzin/api.ErrState" = some 3 by kernel_rfl) (by kernel_rfl)
  exact ⟨_, hc⟩

/-- AN ARRAY OF FOUR BOOLS BY VALUE. -/
theorem bools4 {W : World} {base : Nat} {v : Value} (h : Value.okWide Tryd.prog W .any base 23 v) : ∃ u0 u1 u2 u3 : Bool, v = .agg #[.bool u0, .bool u1, .bool u2, .bool u3] := by
  obtain ⟨cs, rfl, hl, hc⟩ := agg_open [4, 4, 4, 4] Tryd.underlying23 rfl (by kernel_rfl) (by kernel_rfl) h
  match cs, hl with
  | [c0, c1, c2, c3], _ =>
    obtain ⟨x0, e0, k0⟩ := hc 0 _ rfl
    obtain ⟨x1, e1, k1⟩ := hc 1 _ rfl
    obtain ⟨x2, e2, k2⟩ := hc 2 _ rfl
    obtain ⟨x3, e3, k3⟩ := hc 3 _ rfl
    obtain ⟨b0, rfl⟩ := cell_bool Tryd.underlying4 k0
    obtain ⟨b1, rfl⟩ := cell_bool Tryd.underlying4 k1
    obtain ⟨b2, rfl⟩ := cell_bool Tryd.underlying4 k2
    obtain ⟨b3, rfl⟩ := cell_bool Tryd.underlying4 k3
    simp at e0 e1 e2 e3
    subst e0 e1 e2 e3
    exact ⟨b0, b1, b2, b3, rfl⟩
end Go.Proofs.YtkklnocbbpaipaaDoor
