/-
  THE WALK OF muezzinlaw5.first: it answers true. No condition. (For ActBack, ActSays; XActBounds and XActTurned hold the same lines of their own.)
-/
import Derived.Test.YtflckkeaakmojaaDoorActD
namespace Go.Proofs.YtflckkeaakmojaaDoor
open Go.RowKit

theorem add_len (ta fr bs : Ad) (ans : Bool) (tok tid size tmo seq st : Int) : (addL ta fr bs ans tok tid size tmo seq st).length = 33 := by cases ans <;> simp [addL, frontL, adL, twoL]
theorem del_len (ta fr bs : Ad) (mine : Bool) (tid reason : Int) : (delL ta fr bs mine tid reason).length = 30 := by simp [delL, frontL, adL, twoL]
/-- What came back: a slice of its own with the bytes X, and u. -/
def Wrown (w w' : World) (e : Ending) (X : List Int) (u : Value) : Prop := ∃ p cap, e = .returned (.tuple #[.slice p X.length cap, u]) ∧ Gro none w w' ∧ Own w.heap.size w' (.slice p X.length cap) X
theorem Own.wrown {w w' : World} {v u : Value} {X : List Int} (h : Own w.heap.size w' v X) (k : Gro none w w') : Wrown w w' (.returned (.tuple #[v, u])) X u := by
  obtain ⟨p, cap, rfl, _, _, _⟩ := h.lie
  exact ⟨p, cap, rfl, k, h⟩
set_option maxRecDepth 100000 in
theorem first5_any (w : World) : Calls Tryd.prog 7 #[] w fun e w' => e = .returned (.bool true) ∧ Gro none w w' := by
  have HA := Lib.hid (fun w => (add_any adZ adZ adZ false 0 0 0 0 0 0 w (by decide)).mono fun e w' ⟨v, he, hg, ho⟩ => (he ▸ ho.wrown hg : Wrown w w' e _ _))
  have HD := Lib.hid (fun w => (del_any adZ adZ adZ false 0 0 w (by decide)).mono fun e w' ⟨v, he, hg, ho⟩ => (he ▸ ho.wrown hg : Wrown w w' e _ _))
  have h1 := add_len adZ adZ adZ false 0 0 0 0 0 0
  have h2 := del_len adZ adZ adZ false 0 0
  generalize addL adZ adZ adZ false 0 0 0 0 0 0 = X1 at *
  generalize delL adZ adZ adZ false 0 0 = X2 at *
  have HN := Lib.hid (And.intro h1 h2)
  clear h1 h2
  unfold addV adZ at HA
  unfold delV adZ at HD
  simp only at HA HD
  go_enter Tryd.func7, Tryd.ntmps7
  go_wp2_with fail
  refine (HA.out _).mono ?_
  rintro e w1 ⟨p, c, rfl, hg1, -⟩
  rw [HN.out.1]
  go_wp2_with fail
  refine (HD.out _).mono ?_
  rintro e w2 ⟨q, d, rfl, hg2, -⟩
  rw [HN.out.2]
  have HG := Lib.hid (hg1.trans hg2)
  clear hg1 hg2 HA HD
  go_wp2_with fail
  go_ret
  exact ⟨rfl, HG.out⟩
end Go.Proofs.YtflckkeaakmojaaDoor
