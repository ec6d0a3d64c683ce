/-
  AN ELEMENT AS ARGUMENT: its four cells; its stations lie where the slice says. Conditions: the argument is one as the row has it.
-/
import Derived.Test.YtchoeafkjgcmbaaDoorFrame
import Derived.Test.YtchoeafkjgcmbaaDoorTim
namespace Go.Proofs.YtchoeafkjgcmbaaDoor
open Go.ChangeShapes Go.WideShapes Go.ChangeAt Go.WideMaps Go.WideElems Go.RowKit

theorem list4 : ∀ cs : List Value, cs.length = 4 → ∃ a0 a1 a2 a3, cs = [a0, a1, a2, a3]
  | [a0, a1, a2, a3], _ => ⟨a0, a1, a2, a3, rfl⟩
theorem tim_args {H : Type} {enc : TypeId × Value → H} {W : World} {c0 c1 c2 c3 : Value} {d : DataW H} {p : List MemPlace}
    (h : DataW.Trod enc Tryd.prog W 0 (fun _ => true) true 24 (.agg #[c0, c1, c2, c3]) d p) :
    ∃ (count period : Int) (group : Bool) (pa : Option Addr) (cap : Nat) (xs : List Int), c0 = .int .i64 count ∧ c1 = .int .i64 period ∧ c2 = .bool group ∧ c3 = .slice pa xs.length cap ∧ xs.length ≤ 9223372036854775807 ∧ LieI W pa xs ∧
      ∀ x ∈ xs, -9223372036854775808 ≤ x ∧ x ≤ 9223372036854775807 := by
  obtain ⟨fuel, hf⟩ := h
  have k1 : Tryd.prog.cellsOf 3 = 1 := by kernel_rfl
  have k2 : Tryd.prog.cellsOf 4 = 1 := by kernel_rfl
  have k3 : Tryd.prog.cellsOf 22 = 1 := by kernel_rfl
  obtain ⟨ys, n, _, _, _, hyl, hF⟩ := DataW.trod_struct Tryd.underlying24 hf
  have f0 : DataW.trod enc Tryd.prog W 0 (fun _ => true) true n 3 (([c0, c1, c2, c3].drop 0).take (Tryd.prog.cellsOf 3)) = ys[0]? := hF 0 _ rfl
  have f1 : DataW.trod enc Tryd.prog W 0 (fun _ => true) true n 3 (([c0, c1, c2, c3].drop 1).take (Tryd.prog.cellsOf 3)) = ys[1]? := hF 1 _ rfl
  have f2 : DataW.trod enc Tryd.prog W 0 (fun _ => true) true n 4 (([c0, c1, c2, c3].drop 2).take (Tryd.prog.cellsOf 4)) = ys[2]? := hF 2 _ rfl
  have f3 : DataW.trod enc Tryd.prog W 0 (fun _ => true) true n 22 (([c0, c1, c2, c3].drop 3).take (Tryd.prog.cellsOf 22)) = ys[3]? := hF 3 _ rfl
  rw [k1] at f0 f1
  rw [k2] at f2
  rw [k3] at f3
  have l4 : ys.length = 4 := hyl
  have g0 : DataW.trod enc Tryd.prog W 0 (fun _ => true) true n 3 [c0] = some (ys[0]'(by omega)) := f0.trans (List.getElem?_eq_getElem (by omega))
  have g1 : DataW.trod enc Tryd.prog W 0 (fun _ => true) true n 3 [c1] = some (ys[1]'(by omega)) := f1.trans (List.getElem?_eq_getElem (by omega))
  have g2 : DataW.trod enc Tryd.prog W 0 (fun _ => true) true n 4 [c2] = some (ys[2]'(by omega)) := f2.trans (List.getElem?_eq_getElem (by omega))
  have g3 : DataW.trod enc Tryd.prog W 0 (fun _ => true) true n 22 [c3] = some (ys[3]'(by omega)) := f3.trans (List.getElem?_eq_getElem (by omega))
  obtain ⟨count, e0, _⟩ := DataW.trod_int Tryd.underlying3 g0
  obtain ⟨period, e1, _⟩ := DataW.trod_int Tryd.underlying3 g1
  obtain ⟨group, e2, _⟩ := DataW.trod_bool Tryd.underlying4 g2
  simp only [List.cons.injEq, and_true] at e0 e1 e2
  subst e0 e1 e2
  rcases open_ints Tryd.underlying22 Tryd.underlying3 k1 g3 with ⟨e3, _⟩ | ⟨a, len, cap, zs, e3, _, hl, hm, hz, _, hcell, hwz⟩
  · simp only [List.cons.injEq, and_true] at e3
    subst e3
    exact ⟨count, period, group, none, 0, [], rfl, rfl, rfl, rfl, by simp, LieI.nil _ _, fun x hx => by simp at hx⟩
  · simp only [List.cons.injEq, and_true] at e3
    subst e3
    have hz' : zs.length = cap := by simpa using hz
    have htl : (zs.take len).length = len := by rw [List.length_take]; omega
    have hget : ∀ k, k < len → (zs.take len).getD k 0 = zs.getD k 0 := fun k hk => by
      rw [List.getD_eq_getElem?_getD, List.getD_eq_getElem?_getD, List.getElem?_take, if_pos hk]
    refine ⟨count, period, group, some a, cap, zs.take len, rfl, rfl, rfl, by rw [htl], by rw [htl]; unfold maxLen at hm; omega, ?_, ?_⟩
    · intro k hk
      have hk' : k < len := by omega
      have hck := hcell k (by omega)
      obtain ⟨lb, off, s⟩ := a
      have hs : s = none := by
        cases s with
        | none => rfl
        | some x =>
          have h0 := hcell 0 (by omega)
          have hadd : (⟨lb, off, some x⟩ : Addr).add 0 = ⟨lb, off, some x⟩ := by simp [Addr.add]
          rw [hadd] at h0
          simp only [World.cell?] at h0
          split at h0 <;> simp at h0
      subst hs
      have hadd : (⟨lb, off, none⟩ : Addr).add k = ⟨lb, off + k, none⟩ := by unfold Addr.add; split <;> simp_all
      rw [hadd] at hck
      exact ⟨lb, off, rfl, by rw [hget k hk']; exact hck⟩
    · intro x hx
      have hw := hwz x (List.mem_of_mem_take hx)
      simp [Lit.wf, IntKind.min, IntKind.max, IntKind.signed, IntKind.bits] at hw
      omega
end Go.Proofs.YtchoeafkjgcmbaaDoor
