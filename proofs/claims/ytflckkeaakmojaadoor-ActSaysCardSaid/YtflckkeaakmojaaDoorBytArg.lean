/-
  A SLICE OF BYTES THAT CAME IN: its bytes lie where it says, each is from 0 to 255, it is no longer than its capacity. Conditions: the argument is one as the row has it.
-/
import Derived.Test.YtflckkeaakmojaaDoorFrame
import Derived.Test.YtflckkeaakmojaaDoorEqual
namespace Go.Proofs.YtflckkeaakmojaaDoor
open Go.ChangeShapes Go.WideShapes Go.ChangeAt Go.WideMaps Go.WideElems Go.RowKit

theorem bytes_args {H : Type} {enc : TypeId × Value → H} {P : Program} {t e : TypeId} {W : World} {pa : Option Addr} {len cap : Nat} {d : DataW H} {p : List MemPlace} (ht : P.underlying t = some (.slice e)) (he : P.underlying e = some (.int .u8)) (hc : P.cellsOf e = 1)
    (h : DataW.Trod enc P W 0 (fun _ => true) true t (.slice pa len cap) d p) :
    ∃ bs : List Int, bs.length = len ∧ len ≤ cap ∧ cap ≤ 9223372036854775807 ∧ Lie W pa bs ∧ Bytes bs := by
  obtain ⟨fuel, hf⟩ := h
  rcases open_ints ht he hc hf with ⟨hcs, _⟩ | ⟨a, len', cap', zs, hcs, _, hl, hm, hz, _, hcell, hwz⟩
  · simp [Value.cells] at hcs
    obtain ⟨rfl, rfl, rfl⟩ := hcs
    exact ⟨[], rfl, by omega, by decide, Lie.nil _ _, fun i => by simp⟩
  · simp [Value.cells] at hcs
    obtain ⟨rfl, rfl, rfl⟩ := hcs
    have hz' : zs.length = cap := by simpa using hz
    have hget : ∀ k, k < len → (zs.take len).getD k 0 = zs.getD k 0 := fun k hk => by
      rw [List.getD_eq_getElem?_getD, List.getD_eq_getElem?_getD, List.getElem?_take, if_pos hk]
    refine ⟨zs.take len, by rw [List.length_take]; omega, hl, by unfold maxLen at hm; omega, ?_, ?_⟩
    · intro k hk
      have hk' : k < len := by rw [List.length_take] at hk; omega
      have hck := hcell k (by omega)
      obtain ⟨lb, off, s⟩ := a
      have hs : s = none := by
        cases s with
        | none => rfl
        | some x =>
          have h0 := hcell 0 (by omega)
          have hadd : (⟨lb, off, some x⟩ : Addr).add 0 = ⟨lb, off, some x⟩ := by simp [Addr.add]
          rw [hadd] at h0
          simp only [World.cell?] at h0
          split at h0 <;> simp at h0
      subst hs
      have hadd : (⟨lb, off, none⟩ : Addr).add k = ⟨lb, off + k, none⟩ := by unfold Addr.add; split <;> simp_all
      rw [hadd] at hck
      exact ⟨lb, off, rfl, by rw [hget k hk']; exact hck⟩
    · intro i
      rcases Nat.lt_or_ge i (zs.take len).length with hi | hi
      · have hi' : i < len := by rw [List.length_take] at hi; omega
        rw [hget i hi']
        have hmem : zs.getD i 0 ∈ zs := by
          rw [List.getD_eq_getElem?_getD, List.getElem?_eq_getElem (by omega)]
          exact List.getElem_mem _
        have hw := hwz _ hmem
        simp [Lit.wf, IntKind.min, IntKind.max, IntKind.signed, IntKind.bits] at hw
        simp only [List.getD_eq_getElem?_getD] at hw ⊢
        omega
      · rw [List.getD_eq_getElem?_getD, List.getElem?_eq_none hi]
        exact ⟨by decide, by decide⟩
end Go.Proofs.YtflckkeaakmojaaDoor
