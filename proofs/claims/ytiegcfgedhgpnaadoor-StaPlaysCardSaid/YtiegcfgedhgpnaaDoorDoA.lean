/-
  TELLINGS THAT CAME IN, each of a kind, a number and an address (muezzinlaw22.Do); an address by value. No condition beyond what each theorem states.
-/
import Derived.Test.YtiegcfgedhgpnaaDoorDos
import Derived.Test.YtiegcfgedhgpnaaDoorSta
namespace Go.Proofs.YtiegcfgedhgpnaaDoor
open Go.ChangeShapes Go.WideShapes Go.ChangeAt Go.WideMaps Go.WideElems Go.RowKit

theorem list6 : ∀ cs : List Value, cs.length = 6 → ∃ a0 a1 a2 a3 a4 a5, cs = [a0, a1, a2, a3, a4, a5]
  | [a0, a1, a2, a3, a4, a5], _ => ⟨a0, a1, a2, a3, a4, a5, rfl⟩
theorem list8 : ∀ cs : List Value, cs.length = 8 → ∃ a0 a1 a2 a3 a4 a5 a6 a7, cs = [a0, a1, a2, a3, a4, a5, a6, a7]
  | [a0, a1, a2, a3, a4, a5, a6, a7], _ => ⟨a0, a1, a2, a3, a4, a5, a6, a7, rfl⟩
section
variable {H : Type} {enc : TypeId × Value → H} {W : World}
theorem one_u8 {n : Nat} {c : Value} {y : Option (DataW H × List MemPlace)} (h : DataW.trod enc Tryd.prog W 0 (fun _ => true) true n 5 [c] = y) (hy : ∃ z, y = some z) : ∃ x : Int, c = .int .u8 x ∧ 0 ≤ x ∧ x < 256 := by
  obtain ⟨z, rfl⟩ := hy
  obtain ⟨x, e, _, w⟩ := DataW.trod_int Tryd.underlying5 h
  simp only [List.cons.injEq, and_true] at e
  simp [Lit.wf, IntKind.min, IntKind.max, IntKind.signed, IntKind.bits] at w
  exact ⟨x, e, by omega, by omega⟩
theorem do_row {n : Nat} {cs : List Value} {y : DataW H × List MemPlace} (hl : cs.length = 8) (h : DataW.trod enc Tryd.prog W 0 (fun _ => true) true n 57 cs = some y) :
    ∃ (k a : Int) (x : Ad), cs[0]? = some (.int .i64 k) ∧ cs[1]? = some (.int .i64 a) ∧ (∀ j v, [Value.int .u8 x.b0, .int .u8 x.b1, .int .u8 x.b2, .int .u8 x.b3, .int .u8 x.b4, .int .u8 x.b5][j]? = some v → cs[2 + j]? = some v) ∧ 0 ≤ x.b0 ∧ x.b0 < 256 := by
  obtain ⟨c0, c1, c2, c3, c4, c5, c6, c7, rfl⟩ := list8 cs hl
  obtain ⟨ys, m, _, _, _, hyl, hF⟩ := DataW.trod_struct Tryd.underlying57 h
  have k1 : Tryd.prog.cellsOf 3 = 1 := by kernel_rfl
  have k6 : Tryd.prog.cellsOf 25 = 6 := by kernel_rfl
  have ku : Tryd.prog.cellsOf 5 = 1 := by kernel_rfl
  have f0 : DataW.trod enc Tryd.prog W 0 (fun _ => true) true m 3 (([c0, c1, c2, c3, c4, c5, c6, c7].drop 0).take (Tryd.prog.cellsOf 3)) = ys[0]? := hF 0 _ rfl
  have f1 : DataW.trod enc Tryd.prog W 0 (fun _ => true) true m 3 (([c0, c1, c2, c3, c4, c5, c6, c7].drop 1).take (Tryd.prog.cellsOf 3)) = ys[1]? := hF 1 _ rfl
  have f2 : DataW.trod enc Tryd.prog W 0 (fun _ => true) true m 25 (([c0, c1, c2, c3, c4, c5, c6, c7].drop 2).take (Tryd.prog.cellsOf 25)) = ys[2]? := hF 2 _ rfl
  rw [k1] at f0 f1
  rw [k6] at f2
  have l3 : ys.length = 3 := hyl
  have g0 : DataW.trod enc Tryd.prog W 0 (fun _ => true) true m 3 [c0] = some (ys[0]'(by omega)) := f0.trans (List.getElem?_eq_getElem (by omega))
  have g1 : DataW.trod enc Tryd.prog W 0 (fun _ => true) true m 3 [c1] = some (ys[1]'(by omega)) := f1.trans (List.getElem?_eq_getElem (by omega))
  have g2 : DataW.trod enc Tryd.prog W 0 (fun _ => true) true m 25 [c2, c3, c4, c5, c6, c7] = some (ys[2]'(by omega)) := f2.trans (List.getElem?_eq_getElem (by omega))
  obtain ⟨k, e0, _⟩ := DataW.trod_int Tryd.underlying3 g0
  obtain ⟨a, e1, _⟩ := DataW.trod_int Tryd.underlying3 g1
  obtain ⟨zs, m2, _, _, _, hzl, hZ⟩ := DataW.trod_array Tryd.underlying25 g2
  rw [ku] at hZ
  have hsome : ∀ i, i < 6 → ∃ z, zs[i]? = some z := fun i hi => ⟨_, List.getElem?_eq_getElem (by omega)⟩
  obtain ⟨x0, e2, b0, b1⟩ := one_u8 (c := c2) (hZ 0 (by decide)) (hsome 0 (by decide))
  obtain ⟨x1, e3, _⟩ := one_u8 (c := c3) (hZ 1 (by decide)) (hsome 1 (by decide))
  obtain ⟨x2, e4, _⟩ := one_u8 (c := c4) (hZ 2 (by decide)) (hsome 2 (by decide))
  obtain ⟨x3, e5, _⟩ := one_u8 (c := c5) (hZ 3 (by decide)) (hsome 3 (by decide))
  obtain ⟨x4, e6, _⟩ := one_u8 (c := c6) (hZ 4 (by decide)) (hsome 4 (by decide))
  obtain ⟨x5, e7, _⟩ := one_u8 (c := c7) (hZ 5 (by decide)) (hsome 5 (by decide))
  simp only [List.cons.injEq, and_true] at e0 e1
  subst e0 e1 e2 e3 e4 e5 e6 e7
  refine ⟨k, a, ⟨x0, x1, x2, x3, x4, x5⟩, rfl, rfl, fun j v hv => ?_, b0, b1⟩
  rw [← hv, Nat.add_comm]
  rfl
theorem addr_arg {r : Reach} {base : Nat} {v : Value} (h : Value.okWide Tryd.prog W r base 25 v) : ∃ x : Ad, v = adV x := by
  obtain ⟨cs, rfl, hcl, hcs⟩ := agg_open [5, 5, 5, 5, 5, 5] Tryd.underlying25 rfl (by kernel_rfl) (by kernel_rfl) h
  obtain ⟨a0, a1, a2, a3, a4, a5, rfl⟩ := list6 cs hcl
  obtain ⟨_, e, k⟩ := hcs 0 5 rfl
  obtain ⟨x0, rfl, _⟩ := cell_int Tryd.underlying5 k
  obtain ⟨_, e1, k⟩ := hcs 1 5 rfl
  obtain ⟨x1, rfl, _⟩ := cell_int Tryd.underlying5 k
  obtain ⟨_, e2, k⟩ := hcs 2 5 rfl
  obtain ⟨x2, rfl, _⟩ := cell_int Tryd.underlying5 k
  obtain ⟨_, e3, k⟩ := hcs 3 5 rfl
  obtain ⟨x3, rfl, _⟩ := cell_int Tryd.underlying5 k
  obtain ⟨_, e4, k⟩ := hcs 4 5 rfl
  obtain ⟨x4, rfl, _⟩ := cell_int Tryd.underlying5 k
  obtain ⟨_, e5, k⟩ := hcs 5 5 rfl
  obtain ⟨x5, rfl, _⟩ := cell_int Tryd.underlying5 k
  simp only [List.getElem?_cons_zero, List.getElem?_cons_succ, Option.some.injEq] at e e1 e2 e3 e4 e5
  subst e e1 e2 e3 e4 e5
  exact ⟨⟨x0, x1, x2, x3, x4, x5⟩, rfl⟩
end
end Go.Proofs.YtiegcfgedhgpnaaDoor
