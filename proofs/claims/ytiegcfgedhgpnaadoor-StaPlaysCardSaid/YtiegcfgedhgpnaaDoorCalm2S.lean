/-
  MORE OF A REGION THAT DRAWS ITS ORDER (XCalm): under a relation R of what has come up and of the world: an operation that yields one value in every world that meets R is taken first; a store of a whole row once it alone may come up. Conditions: those of XCalm.
-/
import Derived.Test.YtiegcfgedhgpnaaDoorCalmS
import Derived.Test.YtiegcfgedhgpnaaDoorRow
namespace Go.Proofs.YtiegcfgedhgpnaaDoor
open Go.RowKit

section
variable {P : Program} {ops : Array Oper} {Q : Exit → Act → World → Prop} {md : Region.Mode} {R : Array Bool → World → Prop}
/-- The relation as XCalm wants it. -/
def RW (R : Array Bool → World → Prop) (l : Array Bool) (_ : Act) (w : World) : Prop := R l w
/-- An operation that yields in every world that meets R, taken first. -/
theorem takeR {i x ty : Nat} {op : Op} {pos : String} {after : Array Edge} {v : Value} {fuel : Nat} {listed : Array Bool} {a : Act} (hi : ops[i]? = some ⟨some x, op, ty, pos, after, none⟩)
    (hs : Region.noSelect ops = true) (hf : Region.free md ops listed i = true) (hr : (Region.ready md ops listed).contains i = true)
    (hQ : ∀ c a w, Q (.panic c) (a.put (some x) v) w → Q (.panic c) a w) (hR : ∀ l w, R (l.setIfInBounds i true) w ↔ R l w)
    (hy : ∀ l w, R l w → (execOp a.eval ⟨some x, op, ty, pos, after, none⟩).run P w = .ok (.value v) w)
    (h : wpAnyS P md ops Q (RW R) fuel (listed.setIfInBounds i true) (a.put (some x) v)) : wpAnyS P md ops Q (RW R) (fuel + 1) listed a :=
  wpAnyS_take hi hs hf hr hQ (fun l _ w _ h => (hR l w).2 h) (fun l _ w _ h => (hR l w).1 h) (.inl ⟨by simp [Region.wanted], fun l a' w _ he hs => by
    unfold Oper.wp
    rw [he, hy l w hs]
    simp only [Oper.upon]
    exact ⟨trivial, (hR l w).2 hs⟩⟩) h
/-- The one that is left comes up: by whatever law of its own. -/
theorem takeO {i : Nat} {oi : Oper} {fuel : Nat} {listed : Array Bool} {a : Act} (hi : ops[i]? = some oi) (hr : Region.ready md ops listed = [i]) (hg : oi.guard = none)
    (h : ∀ w (K : Act → World → Prop), R listed w → (∀ a' w', R (listed.setIfInBounds i true) w' ∧ wpAnyS P md ops Q (RW R) fuel (listed.setIfInBounds i true) a' → K a' w') → oi.wp P a w K Q) : wpAnyS P md ops Q (RW R) (fuel + 1) listed a :=
  wpAnyS_one hi hr hg fun w hs => h w _ hs fun _ _ h => h
/-- The store of a whole row, once it alone may come up. -/
theorem takeSR {i tv : Nat} {ty : TypeId} {x y : Operand} {pos : String} {after : Array Edge} {fuel : Nat} {listed : Array Bool} {a : Act} (g : Nat) (Z F : Array Value) (t : TypeId) (hi : ops[i]? = some ⟨none, .store ty x y, tv, pos, after, none⟩) (hr : Region.ready md ops listed = [i])
    (hx : a.eval x = .pointer (some ⟨g, 0, none⟩)) (hy : a.eval y = .agg F) (hz : ∀ w, R listed w → w.heap[g]? = some (.cells Z t (0, 0))) (hs : Z.size = F.size) (hi2 : (P.info? ty).map (·.size) = some F.size) (h1 : F.all (·.oneCell') = true)
    (hR : ∀ w w', R listed w → Gro (some g) w w' → w'.heap[g]? = some (.cells F t (0, 0)) → R (listed.setIfInBounds i true) w')
    (h : wpAnyS P md ops Q (RW R) fuel (listed.setIfInBounds i true) a) : wpAnyS P md ops Q (RW R) (fuel + 1) listed a :=
  takeO hi hr rfl fun w K hw hK => wp_store_mid ty x y rfl g 0 F hx hy (hs ▸ there_of_row (hz w hw)) hi2 h1 (hK _ _ ⟨hR _ _ hw (gro_setCells _ _ _ (Gro.refl _ _)) (by rw [heap_setCells_row g t F.toList w 0 Z (hz w hw), setL_all Z F hs]), h⟩)
theorem wp_region_R {id : Nat} {a : Act} {w : World} (R : Array Bool → World → Prop) (hm : P.follows .mixedOrders = true) (hs : R (Array.replicate ops.size false) { w with drawn := w.drawn + 1 })
    (h : wpAnyS P .any ops Q (RW R) ops.size (Array.replicate ops.size false) a) : (Code.region id ops true).wp P Q a w :=
  wp_region_S (RW R) hm hs h
theorem getD_ne {l : Array Bool} {i j : Nat} (h : i ≠ j) : (l.setIfInBounds i true).getD j false = l.getD j false := getD_set_ne false h
end
section
variable {P : Program} {ops : Array Oper} {Q : Exit → Act → World → Prop} {md : Region.Mode} {w0 : World} {d ia ib : Nat} {t : TypeId} {Z F : Array Value}
/-- XCalm's relation RS: an operation that yields in every world that has grown from w0 (a load of what stood there), taken first. -/
theorem takeL {i x ty : Nat} {op : Op} {pos : String} {after : Array Edge} {v : Value} {fuel : Nat} {listed : Array Bool} {a : Act} (hi : ops[i]? = some ⟨some x, op, ty, pos, after, none⟩)
    (hx : x ≠ d) (h1 : i ≠ ia) (h2 : i ≠ ib) (hs : Region.noSelect ops = true) (hf : Region.free md ops listed i = true) (hr : (Region.ready md ops listed).contains i = true)
    (hQ : ∀ c a w, Q (.panic c) (a.put (some x) v) w → Q (.panic c) a w) (hy : ∀ w, Gro none w0 w → (execOp a.eval ⟨some x, op, ty, pos, after, none⟩).run P w = .ok (.value v) w)
    (h : wpAnyS P md ops Q (RS w0 d ia ib t Z F) fuel (listed.setIfInBounds i true) (a.put (some x) v)) : wpAnyS P md ops Q (RS w0 d ia ib t Z F) (fuel + 1) listed a :=
  wpAnyS_take hi hs hf hr hQ (RS.on hx h1 h2) (RS.back hx h1 h2) (.inl ⟨by simp [Region.wanted], fun l a' w hl he hs => by
    unfold Oper.wp
    rw [he, hy w hs.1]
    simp only [Oper.upon]
    exact ⟨trivial, RS.on hx h1 h2 l a' w hl hs⟩⟩) h
/-- The store of a whole row, the last of all. -/
theorem takeST {tv : Nat} {ty : TypeId} {x y : Operand} {pos : String} {after : Array Edge} {fuel : Nat} {listed : Array Bool} {a : Act} {g : Nat} (hi : ops[ib]? = some ⟨none, .store ty x y, tv, pos, after, none⟩) (hr : Region.ready md ops listed = [ib])
    (hne : ia ≠ ib) (hla : listed.getD ia false = true) (hlb : listed.getD ib false = false) (hsz : ib < listed.size) (hp : a.tmps[d]? = some (.pointer (some ⟨g, 0, none⟩)))
    (hx : a.eval x = .pointer (some ⟨g, 0, none⟩)) (hy : a.eval y = .agg F) (hs : Z.size = F.size) (hi2 : (P.info? ty).map (·.size) = some F.size) (h1 : F.all (·.oneCell') = true)
    (hdone : Region.ready md ops (listed.setIfInBounds ib true) = []) (hend : ∀ w, Gro none w0 w → w0.heap.size ≤ g → w.heap[g]? = some (.cells F t (0, 0)) → Q .normal a w) : wpAnyS P md ops Q (RS w0 d ia ib t Z F) (fuel + 1) listed a := by
  refine wpAnyS_one hi hr rfl fun w hs' => ?_
  obtain ⟨g', e1, h2, h3⟩ := hs'.2 hla
  rw [hp] at e1
  injection e1 with e1
  injection e1 with e1
  injection e1 with e1
  injection e1 with e1
  subst e1
  rw [hlb] at h3
  refine wp_store_mid ty x y rfl g 0 F hx hy (hs ▸ there_of_row h3) hi2 h1 ?_
  have hq : a.put none undef = a := rfl
  have hG := gro_setCells F.toList w 0 (Gro.refl (some g) w)
  have hF : (w.setCells g 0 F.toList).heap[g]? = some (.cells F t (0, 0)) := by rw [heap_setCells_row g t F.toList w 0 Z h3, setL_all Z F hs]
  simp only
  rw [hq]
  refine ⟨⟨⟨hG.os.trans hs'.1.os, hG.output.trans hs'.1.output, Nat.le_trans hs'.1.size hG.size, fun k hk _ => (hG.block k (Nat.lt_of_lt_of_le hk hs'.1.size) (by simp; omega)).trans (hs'.1.block k hk (by simp))⟩, fun _ => ⟨g, hp, h2, ?_⟩⟩, ?_⟩
  · rw [getD_set_eq hsz]
    exact hF
  · refine wpAnyS_done hdone fun w'' hs'' => ?_
    obtain ⟨g', e1, _, h6⟩ := hs''.2 (by rw [getD_set_ne false (Ne.symm hne)]; exact hla)
    rw [hp] at e1
    injection e1 with e1
    injection e1 with e1
    injection e1 with e1
    injection e1 with e1
    subst e1
    rw [getD_set_eq hsz] at h6
    exact hend w'' hs''.1 h2 h6
end
end Go.Proofs.YtiegcfgedhgpnaaDoor
