/-
  A REGION THAT DRAWS ITS ORDER AND ONLY MAKES BLOCKS OF ITS OWN, ITS GUARDS DECIDED: under 'grown from w0' each operation in the text's order: one that yields (gY: what it loads stood in w0), a call by its contract (gC), one that is not wanted (gN). Conditions: those of XCalm; the guard is decided by what has come up.
-/
import Derived.Test.YtiegcfgedhgpnaaDoorCalm2S
namespace Go.Proofs.YtiegcfgedhgpnaaDoor
open Go.RowKit

/-- The load of a whole row, run. -/
theorem run_row {P : Program} {w : World} {op : Oper} {a : Act} (ty : TypeId) (x : Operand) (ho : op.op = .load ty x) (b : Nat) (hx : a.eval x = .pointer (some ⟨b, 0, none⟩)) (F : Array Value) (t : TypeId) (hb : w.heap[b]? = some (.cells F t (0, 0))) (d : TypeDesc) (hu : P.underlying ty = some d) (hd : d.isRow = true)
    (hi : (P.info? ty).map (·.size) = some F.size) : (execOp a.eval op).run P w = .ok (.value (.agg F)) w := by
  have hc : w.rangeAt b 0 F.toList := fun j v hv => by
    rw [Nat.zero_add, cell_of_row w b j F t (0, 0) hb]
    simpa using hv
  unfold execOp
  simp only [ho, hx, Instr.loadAt, Instr.sureAddr, Sem.run_bind, Sem.run_pure, Result.andThen_ok, run_loadVar_mid w b 0 ty F.toList d hc hu hd (by simpa using hi)]
/-- The load of a part of a row, run. -/
theorem run_part {P : Program} {w : World} {op : Oper} {a : Act} (ty : TypeId) (x : Operand) (ho : op.op = .load ty x) (b o : Nat) (hx : a.eval x = .pointer (some ⟨b, o, none⟩)) (G : List Value) (F : Array Value) (t : TypeId) (hb : w.heap[b]? = some (.cells F t (0, 0))) (hsub : ∀ j v, G[j]? = some v → F[o + j]? = some v) (d : TypeDesc) (hu : P.underlying ty = some d) (hd : d.isRow = true)
    (hi : (P.info? ty).map (·.size) = some G.length) : (execOp a.eval op).run P w = .ok (.value (.agg G.toArray)) w := by
  have hc : w.rangeAt b o G := fun j v hv => by
    rw [cell_of_row w b (o + j) F t (0, 0) hb]
    exact hsub j v hv
  unfold execOp
  simp only [ho, hx, Instr.loadAt, Instr.sureAddr, Sem.run_bind, Sem.run_pure, Result.andThen_ok, run_loadVar_mid w b o ty G d hc hu hd hi]
theorem sub_six {F : Array Value} {o : Nat} {a b c d e f : Value} (h0 : F[o]? = some a) (h1 : F[o + 1]? = some b) (h2 : F[o + 2]? = some c) (h3 : F[o + 3]? = some d) (h4 : F[o + 4]? = some e) (h5 : F[o + 5]? = some f) : ∀ j v, [a, b, c, d, e, f][j]? = some v → F[o + j]? = some v
  | 0, v, h => h0.trans h
  | 1, v, h => h1.trans h
  | 2, v, h => h2.trans h
  | 3, v, h => h3.trans h
  | 4, v, h => h4.trans h
  | 5, v, h => h5.trans h
section
variable {P : Program} {ops : Array Oper} {Q : Exit → Act → World → Prop} {md : Region.Mode} {w0 : World}
def RG (w0 : World) (_ : Array Bool) (w : World) : Prop := Gro none w0 w
theorem wp_region_G {id : Nat} {a : Act} {w : World} (hm : P.follows .mixedOrders = true) (h : wpAnyS P .any ops Q (RW (RG w)) ops.size (Array.replicate ops.size false) a) : (Code.region id ops true).wp P Q a w :=
  wp_region_R (RG w) hm (Gro.drew (Gro.refl _ _)) h
theorem gY {i x ty : Nat} {op : Op} {pos : String} {after : Array Edge} {g : Option (Nat × Bool)} {v : Value} {fuel : Nat} {listed : Array Bool} {a : Act} (hi : ops[i]? = some ⟨some x, op, ty, pos, after, g⟩)
    (hs : Region.noSelect ops = true) (hf : Region.free md ops listed i = true) (hr : (Region.ready md ops listed).contains i = true) (hQ : ∀ c a w, Q (.panic c) (a.put (some x) v) w → Q (.panic c) a w)
    (hw : Region.wanted ⟨some x, op, ty, pos, after, g⟩ (yielded ops a.tmps) = true)
    (hy : ∀ w, Gro none w0 w → (execOp a.eval ⟨some x, op, ty, pos, after, g⟩).run P w = .ok (.value v) w)
    (h : wpAnyS P md ops Q (RW (RG w0)) fuel (listed.setIfInBounds i true) (a.put (some x) v)) : wpAnyS P md ops Q (RW (RG w0)) (fuel + 1) listed a :=
  wpAnyS_take hi hs hf hr hQ (fun _ _ _ _ h => h) (fun _ _ _ _ h => h) (.inl ⟨hw, fun l a' w _ he hs => by
    unfold Oper.wp
    rw [he, hy w hs]
    simp only [Oper.upon]
    exact ⟨trivial, hs⟩⟩) h
theorem gC {i x ty : Nat} {op : Op} {pos : String} {after : Array Edge} {g : Option (Nat × Bool)} {v : Value} {fuel : Nat} {listed : Array Bool} {a : Act} (f : Nat) (args : Array Value) (hi : ops[i]? = some ⟨some x, op, ty, pos, after, g⟩)
    (hs : Region.noSelect ops = true) (hf : Region.free md ops listed i = true) (hr : (Region.ready md ops listed).contains i = true) (hQ : ∀ c a w, Q (.panic c) (a.put (some x) v) w → Q (.panic c) a w)
    (hw : Region.wanted ⟨some x, op, ty, pos, after, g⟩ (yielded ops a.tmps) = true)
    (hy : ∀ w, (execOp a.eval ⟨some x, op, ty, pos, after, g⟩).run P w = .ok (.enter f args) w)
    (hc : ∀ w, Gro none w0 w → Calls P f args w fun e w' => e = .returned v ∧ Gro none w w')
    (h : wpAnyS P md ops Q (RW (RG w0)) fuel (listed.setIfInBounds i true) (a.put (some x) v)) : wpAnyS P md ops Q (RW (RG w0)) (fuel + 1) listed a :=
  wpAnyS_take hi hs hf hr hQ (fun _ _ _ _ h => h) (fun _ _ _ _ h => h) (.inl ⟨hw, fun l a' w _ he hs => by
    unfold Oper.wp
    rw [he, hy w]
    simp only [Oper.upon]
    refine (hc w hs).mono fun e w' ⟨hd, hk⟩ => ?_
    rw [hd]
    exact ⟨rfl, Gro.trans hs hk⟩⟩) h
theorem gN {i x ty : Nat} {op : Op} {pos : String} {after : Array Edge} {g : Option (Nat × Bool)} {fuel : Nat} {listed : Array Bool} {a : Act} (hi : ops[i]? = some ⟨some x, op, ty, pos, after, g⟩)
    (hs : Region.noSelect ops = true) (hf : Region.free md ops listed i = true) (hr : (Region.ready md ops listed).contains i = true) (hQ : ∀ c a w, Q (.panic c) (a.put (some x) undef) w → Q (.panic c) a w)
    (hw : Region.wanted ⟨some x, op, ty, pos, after, g⟩ (yielded ops a.tmps) = false)
    (h : wpAnyS P md ops Q (RW (RG w0)) fuel (listed.setIfInBounds i true) (a.put (some x) undef)) : wpAnyS P md ops Q (RW (RG w0)) (fuel + 1) listed a :=
  wpAnyS_take hi hs hf hr hQ (fun _ _ _ _ h => h) (fun _ _ _ _ h => h) (.inr ⟨hw, rfl⟩) h
theorem gDone {fuel : Nat} {listed : Array Bool} {a : Act} (hr : Region.ready md ops listed = []) (h : ∀ w, Gro none w0 w → Q .normal a w) : wpAnyS P md ops Q (RW (RG w0)) fuel listed a := wpAnyS_done hr h
end
/-! A slice literal built in such a region (buildSlice): its block is known behind it. -/
section
variable {P : Program} {ops : Array Oper} {Q : Exit → Act → World → Prop} {md : Region.Mode} {w0 : World} {d ib n : Nat} {t : TypeId} {F : Array Value}
def RB (w0 : World) (d ib n : Nat) (t : TypeId) (F : Array Value) (l : Array Bool) (a : Act) (w : World) : Prop :=
  Gro none w0 w ∧ (l.getD ib false = true → ∃ g, a.tmps[d]? = some (.slice (some ⟨g, 0, none⟩) n n) ∧ w.heap[g]? = some (.cells F t (0, 0)))
theorem RB.on {i x : Nat} {v : Value} (hx : x ≠ d) (h2 : i ≠ ib) (l : Array Bool) (a : Act) (w : World) (h : RB w0 d ib n t F l a w) : RB w0 d ib n t F (l.setIfInBounds i true) (a.put (some x) v) w :=
  ⟨h.1, fun hl => by
    rw [getD_set_ne false h2] at hl
    obtain ⟨g, e, r⟩ := h.2 hl
    exact ⟨g, (put_tmps a x v d hx).trans e, r⟩⟩
theorem RB.back {i x : Nat} {v : Value} (hx : x ≠ d) (h2 : i ≠ ib) (l : Array Bool) (a : Act) (w : World) (h : RB w0 d ib n t F (l.setIfInBounds i true) (a.put (some x) v) w) : RB w0 d ib n t F l a w :=
  ⟨h.1, fun hl => by
    obtain ⟨g, e, r⟩ := h.2 (by rw [getD_set_ne false h2]; exact hl)
    exact ⟨g, (put_tmps a x v d hx).symm.trans e, r⟩⟩
theorem RB.gro {l : Array Bool} {a : Act} {w w' : World} (h : RB w0 d ib n t F l a w) (k : Gro none w w') : RB w0 d ib n t F l a w' :=
  ⟨h.1.trans k, fun hl => by
    obtain ⟨g, e, r⟩ := h.2 hl
    exact ⟨g, e, (k.block g (blk_in r) (by simp)).trans r⟩⟩
theorem wp_region_B {id : Nat} {a : Act} {w : World} (d ib n : Nat) (t : TypeId) (F : Array Value) (hm : P.follows .mixedOrders = true) (hb : (Array.replicate ops.size false).getD ib false = false)
    (h : wpAnyS P .any ops Q (RB w d ib n t F) ops.size (Array.replicate ops.size false) a) : (Code.region id ops true).wp P Q a w :=
  wp_region_S (RB w d ib n t F) hm ⟨Gro.drew (Gro.refl _ _), fun h => by rw [hb] at h; cases h⟩ h
theorem bY {i x ty : Nat} {op : Op} {pos : String} {after : Array Edge} {g : Option (Nat × Bool)} {v : Value} {fuel : Nat} {listed : Array Bool} {a : Act} (hi : ops[i]? = some ⟨some x, op, ty, pos, after, g⟩) (hx : x ≠ d) (h2 : i ≠ ib)
    (hs : Region.noSelect ops = true) (hf : Region.free md ops listed i = true) (hr : (Region.ready md ops listed).contains i = true) (hQ : ∀ c a w, Q (.panic c) (a.put (some x) v) w → Q (.panic c) a w)
    (hw : Region.wanted ⟨some x, op, ty, pos, after, g⟩ (yielded ops a.tmps) = true)
    (hy : ∀ w, Gro none w0 w → (execOp a.eval ⟨some x, op, ty, pos, after, g⟩).run P w = .ok (.value v) w)
    (h : wpAnyS P md ops Q (RB w0 d ib n t F) fuel (listed.setIfInBounds i true) (a.put (some x) v)) : wpAnyS P md ops Q (RB w0 d ib n t F) (fuel + 1) listed a :=
  wpAnyS_take hi hs hf hr hQ (fun l a w _ h => RB.on hx h2 l a w h) (fun l a w _ h => RB.back hx h2 l a w h) (.inl ⟨hw, fun l a' w _ he hs => by
    unfold Oper.wp
    rw [he, hy w hs.1]
    simp only [Oper.upon]
    exact ⟨trivial, RB.on hx h2 l a' w hs⟩⟩) h
theorem bC {i x ty : Nat} {op : Op} {pos : String} {after : Array Edge} {g : Option (Nat × Bool)} {v : Value} {fuel : Nat} {listed : Array Bool} {a : Act} (f : Nat) (args : Array Value) (hi : ops[i]? = some ⟨some x, op, ty, pos, after, g⟩) (hx : x ≠ d) (h2 : i ≠ ib)
    (hs : Region.noSelect ops = true) (hf : Region.free md ops listed i = true) (hr : (Region.ready md ops listed).contains i = true) (hQ : ∀ c a w, Q (.panic c) (a.put (some x) v) w → Q (.panic c) a w)
    (hw : Region.wanted ⟨some x, op, ty, pos, after, g⟩ (yielded ops a.tmps) = true)
    (hy : ∀ w, (execOp a.eval ⟨some x, op, ty, pos, after, g⟩).run P w = .ok (.enter f args) w)
    (hc : ∀ w, Gro none w0 w → Calls P f args w fun e w' => e = .returned v ∧ Gro none w w')
    (h : wpAnyS P md ops Q (RB w0 d ib n t F) fuel (listed.setIfInBounds i true) (a.put (some x) v)) : wpAnyS P md ops Q (RB w0 d ib n t F) (fuel + 1) listed a :=
  wpAnyS_take hi hs hf hr hQ (fun l a w _ h => RB.on hx h2 l a w h) (fun l a w _ h => RB.back hx h2 l a w h) (.inl ⟨hw, fun l a' w _ he hs => by
    unfold Oper.wp
    rw [he, hy w]
    simp only [Oper.upon]
    refine (hc w hs.1).mono fun e w' ⟨hd, hk⟩ => ?_
    rw [hd]
    exact ⟨rfl, (RB.on hx h2 l a' w hs).gro hk⟩⟩) h
/-- The slice literal, once it alone may come up. -/
theorem bB {ty : Nat} {op : Op} {pos : String} {after : Array Edge} {fuel : Nat} {listed : Array Bool} {a : Act} (hi : ops[ib]? = some ⟨some d, op, ty, pos, after, none⟩) (hr : Region.ready md ops listed = [ib]) (hd : d < a.tmps.size)
    (hy : ∀ w, (execOp a.eval ⟨some d, op, ty, pos, after, none⟩).run P w = .ok (.value (.slice (some ⟨w.heap.size, 0, none⟩) n n)) (w.alloc (.cells F t)))
    (h : ∀ g, w0.heap.size ≤ g → wpAnyS P md ops Q (RB w0 d ib n t F) fuel (listed.setIfInBounds ib true) (a.put (some d) (.slice (some ⟨g, 0, none⟩) n n))) : wpAnyS P md ops Q (RB w0 d ib n t F) (fuel + 1) listed a := by
  refine wpAnyS_one hi hr rfl fun w hs => ?_
  unfold Oper.wp
  rw [hy w]
  simp only [Oper.upon]
  exact ⟨⟨hs.1.alloc _, fun _ => ⟨w.heap.size, by simp [Act.put, hd], heap_alloc_new w _⟩⟩, h _ hs.1.size⟩
theorem bDone {fuel : Nat} {listed : Array Bool} {a : Act} {g : Nat} (hr : Region.ready md ops listed = []) (hl : listed.getD ib false = true) (hp : a.tmps[d]? = some (.slice (some ⟨g, 0, none⟩) n n))
    (h : ∀ w, Gro none w0 w → w.heap[g]? = some (.cells F t (0, 0)) → Q .normal a w) : wpAnyS P md ops Q (RB w0 d ib n t F) fuel listed a :=
  wpAnyS_done hr fun w hs => by
    obtain ⟨g', e, r⟩ := hs.2 hl
    rw [hp] at e
    injection e with e
    injection e with e
    injection e with e
    injection e with e
    subst e
    exact h w hs.1 r
end
end Go.Proofs.YtiegcfgedhgpnaaDoor
