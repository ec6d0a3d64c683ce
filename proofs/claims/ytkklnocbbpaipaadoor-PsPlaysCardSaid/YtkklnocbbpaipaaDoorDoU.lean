/-
  TELLINGS THAT CAME IN, each of a kind, two numbers, a boolean and four more (muezzinlaw21.Do). No condition beyond what each theorem states.
-/
import Derived.Test.YtkklnocbbpaipaaDoorDos
import Derived.Test.YtkklnocbbpaipaaDoorPsPlays
namespace Go.Proofs.YtkklnocbbpaipaaDoor
open Go.ChangeShapes Go.WideShapes Go.ChangeAt Go.WideMaps Go.WideElems Go.RowKit

theorem list8 : ∀ cs : List Value, cs.length = 8 → ∃ a0 a1 a2 a3 a4 a5 a6 a7, cs = [a0, a1, a2, a3, a4, a5, a6, a7]
  | [a0, a1, a2, a3, a4, a5, a6, a7], _ => ⟨a0, a1, a2, a3, a4, a5, a6, a7, rfl⟩
section
variable {H : Type} {enc : TypeId × Value → H} {W : World}
theorem one_bool {n : Nat} {c : Value} {y : Option (DataW H × List MemPlace)} (h : DataW.trod enc Tryd.prog W 0 (fun _ => true) true n 4 [c] = y) (hy : ∃ z, y = some z) : ∃ x : Bool, c = .bool x := by
  obtain ⟨z, rfl⟩ := hy
  obtain ⟨x, e, _⟩ := DataW.trod_bool Tryd.underlying4 h
  simp only [List.cons.injEq, and_true] at e
  exact ⟨x, e⟩
theorem do_row {n : Nat} {cs : List Value} {y : DataW H × List MemPlace} (hl : cs.length = 8) (h : DataW.trod enc Tryd.prog W 0 (fun _ => true) true n 56 cs = some y) : ∃ t : Tell, cs = tellR t := by
  obtain ⟨c0, c1, c2, c3, c4, c5, c6, c7, rfl⟩ := list8 cs hl
  obtain ⟨ys, m, _, _, _, hyl, hF⟩ := DataW.trod_struct Tryd.underlying56 h
  have k1 : Tryd.prog.cellsOf 3 = 1 := by kernel_rfl
  have kb : Tryd.prog.cellsOf 4 = 1 := by kernel_rfl
  have k4 : Tryd.prog.cellsOf 23 = 4 := by kernel_rfl
  have f0 : DataW.trod enc Tryd.prog W 0 (fun _ => true) true m 3 (([c0, c1, c2, c3, c4, c5, c6, c7].drop 0).take (Tryd.prog.cellsOf 3)) = ys[0]? := hF 0 _ rfl
  have f1 : DataW.trod enc Tryd.prog W 0 (fun _ => true) true m 3 (([c0, c1, c2, c3, c4, c5, c6, c7].drop 1).take (Tryd.prog.cellsOf 3)) = ys[1]? := hF 1 _ rfl
  have f2 : DataW.trod enc Tryd.prog W 0 (fun _ => true) true m 3 (([c0, c1, c2, c3, c4, c5, c6, c7].drop 2).take (Tryd.prog.cellsOf 3)) = ys[2]? := hF 2 _ rfl
  have f3 : DataW.trod enc Tryd.prog W 0 (fun _ => true) true m 4 (([c0, c1, c2, c3, c4, c5, c6, c7].drop 3).take (Tryd.prog.cellsOf 4)) = ys[3]? := hF 3 _ rfl
  have f4 : DataW.trod enc Tryd.prog W 0 (fun _ => true) true m 23 (([c0, c1, c2, c3, c4, c5, c6, c7].drop 4).take (Tryd.prog.cellsOf 23)) = ys[4]? := hF 4 _ rfl
  rw [k1] at f0 f1 f2
  rw [kb] at f3
  rw [k4] at f4
  have l5 : ys.length = 5 := hyl
  have g0 : DataW.trod enc Tryd.prog W 0 (fun _ => true) true m 3 [c0] = some (ys[0]'(by omega)) := f0.trans (List.getElem?_eq_getElem (by omega))
  have g1 : DataW.trod enc Tryd.prog W 0 (fun _ => true) true m 3 [c1] = some (ys[1]'(by omega)) := f1.trans (List.getElem?_eq_getElem (by omega))
  have g2 : DataW.trod enc Tryd.prog W 0 (fun _ => true) true m 3 [c2] = some (ys[2]'(by omega)) := f2.trans (List.getElem?_eq_getElem (by omega))
  have g4 : DataW.trod enc Tryd.prog W 0 (fun _ => true) true m 23 [c4, c5, c6, c7] = some (ys[4]'(by omega)) := f4.trans (List.getElem?_eq_getElem (by omega))
  obtain ⟨k, e0, _⟩ := DataW.trod_int Tryd.underlying3 g0
  obtain ⟨a, e1, _⟩ := DataW.trod_int Tryd.underlying3 g1
  obtain ⟨n2, e2, _⟩ := DataW.trod_int Tryd.underlying3 g2
  obtain ⟨on, e3⟩ := one_bool (c := c3) f3 ⟨_, List.getElem?_eq_getElem (by omega)⟩
  obtain ⟨zs, m2, _, _, _, hzl, hZ⟩ := DataW.trod_array Tryd.underlying23 g4
  rw [kb] at hZ
  have hsome : ∀ i, i < 4 → ∃ z, zs[i]? = some z := fun i hi => ⟨_, List.getElem?_eq_getElem (by omega)⟩
  obtain ⟨x0, e4⟩ := one_bool (c := c4) (hZ 0 (by decide)) (hsome 0 (by decide))
  obtain ⟨x1, e5⟩ := one_bool (c := c5) (hZ 1 (by decide)) (hsome 1 (by decide))
  obtain ⟨x2, e6⟩ := one_bool (c := c6) (hZ 2 (by decide)) (hsome 2 (by decide))
  obtain ⟨x3, e7⟩ := one_bool (c := c7) (hZ 3 (by decide)) (hsome 3 (by decide))
  simp only [List.cons.injEq, and_true] at e0 e1 e2
  subst e0 e1 e2 e3 e4 e5 e6 e7
  exact ⟨⟨k, a, n2, on, x0, x1, x2, x3⟩, rfl⟩
end
end Go.Proofs.YtkklnocbbpaipaaDoor
