/-
  A LIST OF TELLINGS THAT CAME IN: structs of one-cell integers, cell by cell. No condition beyond what each theorem states.
-/
import Derived.Test.YtiegcfgedhgpnaaDoorFrame
import Derived.Deep.Slices
import Derived.Deep.Fields
import Derived.ChangeSame
namespace Go.Proofs.YtiegcfgedhgpnaaDoor
open Go.ChangeShapes Go.WideShapes Go.Deep Go.RowKit

/-- A SLICE OF STRUCTS THAT CAME IN: where each element's cells lie, and that they read as that struct. -/
theorem rows_args {H : Type} {enc : TypeId × Value → H} {P : Program} {t e : TypeId} {W : World} {pa : Option Addr} {len cap : Nat} {d : DataW H} {p : List MemPlace} (N : Nat) (hN : 0 < N) (ht : P.underlying t = some (.slice e)) (hC : P.cellsOf e = N)
    (h : DataW.Trod enc P W 0 (fun _ => true) true t (.slice pa len cap) d p) :
    len ≤ 9223372036854775807 ∧ ∀ k, k < len → ∃ lb off, pa = some ⟨lb, off, none⟩ ∧ ∃ (cs : List Value) (n : Nat) (y : DataW H × List MemPlace), cs.length = N ∧ (∀ c, c < N → W.cell? ⟨lb, off + k * N + c, none⟩ = cs[c]?) ∧ DataW.trod enc P W 0 (fun _ => true) true n e cs = some y := by
  obtain ⟨fuel, hf⟩ := h
  rcases open_slice ht hf with ⟨hcs, _⟩ | ⟨a, len', cap', m, n, D, Pl, hcs, _, hl, hm, hmm, _, hi⟩
  · simp [Value.cells] at hcs
    obtain ⟨rfl, rfl, rfl⟩ := hcs
    exact ⟨by decide, fun k hk => by omega⟩
  · simp [Value.cells] at hcs
    obtain ⟨rfl, rfl, rfl⟩ := hcs
    have hmm' : m = cap := by simpa using hmm
    refine ⟨by unfold maxLen at hm; omega, fun k hk => ?_⟩
    obtain ⟨cs', hc, htr⟩ := hi k (by omega)
    rw [hC] at hc
    obtain ⟨_, hcl, hat⟩ := World.cells?_some hc
    obtain ⟨lb, off, s⟩ := a
    have hs : s = none := by
      cases s with
      | none => rfl
      | some x =>
        obtain ⟨cs0, hc0, _⟩ := hi 0 (by omega)
        rw [hC] at hc0
        obtain ⟨_, hcl0, hat0⟩ := World.cells?_some hc0
        have h0 := hat0 0 hN
        have hadd : ((⟨lb, off, some x⟩ : Addr).add (0 * N)).add 0 = ⟨lb, off, some x⟩ := by simp [Addr.add]
        rw [hadd, List.getElem?_eq_getElem (by omega)] at h0
        simp only [World.cell?] at h0
        split at h0 <;> simp at h0
    subst hs
    refine ⟨lb, off, rfl, cs', n, _, hcl, fun c hcN => ?_, htr⟩
    have hadd : ((⟨lb, off, none⟩ : Addr).add (k * N)).add c = ⟨lb, off + k * N + c, none⟩ := by
      unfold Addr.add; split <;> split <;> simp_all
    rw [← hat c hcN, hadd]

/-- A field of one integer cell. -/
theorem field_int {H : Type} {enc : TypeId × Value → H} {P : Program} {W : World} {fs : Array Field} {n : Nat} {e : TypeId} {cs : List Value} {y : DataW H × List MemPlace} {k : IntKind} (he : P.underlying e = some (.struct fs)) (hone : oneCellFields P fs = true)
    (h : DataW.trod enc P W 0 (fun _ => true) true n e cs = some y) (j : Nat) (f : Field) (hj : fs[j]? = some f) (hk : P.underlying f.type = some (.int k)) (hl : cs.length = fs.size) : ∃ x : Int, cs[j]? = some (.int k x) ∧ (Lit.int k x).wf = true := by
  obtain ⟨ys, n', _, _, _, hyl, hf⟩ := DataW.trod_struct he h
  obtain ⟨ho, hk1⟩ := hone_of hone j f hj
  have hjl : j < fs.size := (Array.getElem?_eq_some_iff.1 hj).1
  have h1 := hf j f hj
  rw [ho, hk1] at h1
  have hv : cs[j]? = some (cs[j]'(by omega)) := List.getElem?_eq_getElem (by omega)
  have hone' : (cs.drop j).take 1 = [cs[j]'(by omega)] := by
    rw [List.drop_eq_getElem_cons (by omega)]
    rfl
  rw [hone', List.getElem?_eq_getElem (by omega)] at h1
  obtain ⟨x, e1, _, wx⟩ := DataW.trod_int hk h1
  simp at e1
  exact ⟨x, by rw [hv, e1], wx⟩
theorem wf64 {x : Int} (h : (Lit.int .i64 x).wf = true) : -9223372036854775808 ≤ x ∧ x ≤ 9223372036854775807 := by
  simp [Lit.wf, IntKind.min, IntKind.max, IntKind.signed, IntKind.bits] at h
  omega
end Go.Proofs.YtiegcfgedhgpnaaDoor
