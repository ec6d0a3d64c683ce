/-
  A BOOLEAN THAT CAME IN.
-/
import Derived.Test.YtflckkeaakmojaaDoorFrame
namespace Go.Proofs.YtflckkeaakmojaaDoor
open Go.ChangeShapes Go.WideShapes Go.ChangeAt Go.WideMaps Go.WideElems Go.RowKit
theorem open_bool {P : Program} {W : World} {r : Reach} {base : Nat} {t : TypeId} {v : Value} (hu : P.underlying t = some .bool) (h : Value.okWide P W r base t v) : ∃ b, v = .bool b := by
  unfold Value.okWide at h
  rw [hu] at h
  exact cell_bool hu h
end Go.Proofs.YtflckkeaakmojaaDoor
