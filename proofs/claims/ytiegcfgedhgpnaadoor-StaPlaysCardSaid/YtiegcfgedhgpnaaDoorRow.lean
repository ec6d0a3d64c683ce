/-
  WHOLE ROWS: a struct or an array stored into a block that it fills, and read out of one: by a law each, whatever its length, and the world behind the store is a letter. Conditions: the block is known whole.
-/
import Derived.Test.YtiegcfgedhgpnaaDoorBase
import Derived.Deep.MidRow
namespace Go.Proofs.YtiegcfgedhgpnaaDoor
open Go.RowKit

def setL (C : Array Value) : Nat → List Value → Array Value
  | _, [] => C
  | o, v :: r => setL (C.setIfInBounds o v) (o + 1) r
theorem setL_size : ∀ (vs : List Value) (C : Array Value) (o : Nat), (setL C o vs).size = C.size
  | [], _, _ => rfl
  | v :: r, C, o => (setL_size r _ _).trans (by simp)
theorem setL_low : ∀ (vs : List Value) (C : Array Value) (o j : Nat), j < o → (setL C o vs)[j]? = C[j]?
  | [], _, _, _, _ => rfl
  | v :: r, C, o, j, h => by
    rw [setL, setL_low r _ _ j (by omega), Array.getElem?_setIfInBounds_ne (by omega)]
theorem setL_in : ∀ (vs : List Value) (C : Array Value) (o j : Nat), j < vs.length → o + vs.length ≤ C.size → (setL C o vs)[o + j]? = vs[j]?
  | [], _, _, _, h, _ => by simp at h
  | v :: r, C, o, 0, _, h => by
    simp only [List.length_cons] at h
    change (setL (C.setIfInBounds o v) (o + 1) r)[o]? = some v
    rw [setL_low r _ _ o (by omega), Array.getElem?_setIfInBounds_self_of_lt (by omega)]
  | v :: r, C, o, j + 1, hj, h => by
    simp only [List.length_cons] at h hj
    have h1 := setL_in r (C.setIfInBounds o v) (o + 1) j (by omega) (by simp; omega)
    rw [setL, show o + (j + 1) = o + 1 + j by omega, h1, List.getElem?_cons_succ]
theorem setL_all (C F : Array Value) (h : C.size = F.size) : setL C 0 F.toList = F := by
  apply Array.ext_getElem?
  intro j
  rcases Nat.lt_or_ge j F.size with hj | hj
  · have := setL_in F.toList C 0 j (by simpa using hj) (by simp; omega)
    rw [Nat.zero_add] at this
    rw [this]; simp
  · rw [Array.getElem?_eq_none (by rw [setL_size]; omega), Array.getElem?_eq_none hj]
theorem heap_setCells_row (b : Nat) (t : TypeId) : ∀ (vs : List Value) (w : World) (o : Nat) (C : Array Value), w.heap[b]? = some (.cells C t (0, 0)) → (w.setCells b o vs).heap[b]? = some (.cells (setL C o vs) t (0, 0))
  | [], _, _, _, h => h
  | v :: r, w, o, C, h => heap_setCells_row b t r _ (o + 1) _ (heap_setCell_same w b o C t v h)
theorem gro_setCells {a : World} {b : Nat} : ∀ (vs : List Value) (w : World) (o : Nat), Gro (some b) a w → Gro (some b) a (w.setCells b o vs)
  | [], _, _, h => h
  | v :: r, _, o, h => gro_setCells r _ (o + 1) (h.setCell o v)
theorem there_of_row {w : World} {b : Nat} {C : Array Value} {t : TypeId} (h : w.heap[b]? = some (.cells C t (0, 0))) : w.there b 0 C.size := fun j hj => by
  rw [Nat.zero_add, cell_of_row w b j C t (0, 0) h]
  exact ⟨by simp [hj], frozen_of_row w b j C t h⟩
/-- The store of a whole row. -/
theorem store_row {P : Program} {ops : Array Oper} {rest : List Oper} {op : Oper} {a : Act} {w : World} {Q : Exit → Act → World → Prop} (hgd : op.guard = none) (ty : TypeId) (x y : Operand) (ho : op.op = .store ty x y)
    (b : Nat) (hx : a.eval x = .pointer (some ⟨b, 0, none⟩)) (F : Array Value) (hy : a.eval y = .agg F) (C : Array Value) (t : TypeId) (hb : w.heap[b]? = some (.cells C t (0, 0))) (hs : C.size = F.size)
    (hi : (P.info? ty).map (·.size) = some F.size) (h1 : F.all (·.oneCell') = true)
    (h : ∀ w', Gro (some b) w w' → w'.heap[b]? = some (.cells F t (0, 0)) → wpList P ops Q rest (a.put op.dst undef) w') : wpList P ops Q (op :: rest) a w :=
  wpList_store_mid hgd ty x y ho b 0 F hx hy (hs ▸ there_of_row hb) hi h1 (h _ (gro_setCells _ _ _ (Gro.refl _ _)) (by rw [heap_setCells_row b t F.toList w 0 C hb, setL_all C F hs]))
/-- The load of a whole row. -/
theorem load_row {P : Program} {ops : Array Oper} {rest : List Oper} {op : Oper} {a : Act} {w : World} {Q : Exit → Act → World → Prop} (hgd : op.guard = none) (ty : TypeId) (x : Operand) (ho : op.op = .load ty x)
    (b : Nat) (hx : a.eval x = .pointer (some ⟨b, 0, none⟩)) (F : Array Value) (t : TypeId) (hb : w.heap[b]? = some (.cells F t (0, 0))) (d : TypeDesc) (hu : P.underlying ty = some d) (hd : d.isRow = true)
    (hi : (P.info? ty).map (·.size) = some F.size) (h : wpList P ops Q rest (a.put op.dst (.agg F)) w) : wpList P ops Q (op :: rest) a w :=
  wpList_load_mid hgd ty x ho b 0 hx F.toList d (fun j v hv => by rw [Nat.zero_add, cell_of_row w b j F t (0, 0) hb]; simpa using hv) hu hd (by simpa using hi) (by simpa using h)
/-- A new variable, and a row stored into it at once: the world behind both is a letter. -/
theorem alloc_row {P : Program} {ops : Array Oper} {rest : List Oper} {op op2 : Oper} {a : Act} {w : World} {Q : Exit → Act → World → Prop} (hgd : op.guard = none) (ty : TypeId) (ho : op.op = .alloc ty) (d : Tmp) (hd : op.dst = some d) (Z : Array Value) (t : TypeId)
    (hrun : ∀ w, (Instr.alloc ty true (.tuple #[])).run P w = .ok (.pointer (some ⟨w.heap.size, 0, none⟩)) (w.alloc (.cells Z t)))
    (hgd2 : op2.guard = none) (y : Operand) (ho2 : op2.op = .store ty (.tmp d) y) (hlt : d < a.tmps.size) (F : Array Value) (hy : (a.put (some d) (.pointer (some ⟨w.heap.size, 0, none⟩))).eval y = .agg F) (hs : Z.size = F.size)
    (hi : (P.info? ty).map (·.size) = some F.size) (h1 : F.all (·.oneCell') = true)
    (h : ∀ w', Gro none w w' → w'.heap[w.heap.size]? = some (.cells F t (0, 0)) → wpList P ops Q rest ((a.put (some d) (.pointer (some ⟨w.heap.size, 0, none⟩))).put op2.dst undef) w') : wpList P ops Q (op :: op2 :: rest) a w := by
  refine wpList_alloc_as hgd ty ho (.cells Z t) (hrun w) ?_
  rw [hd]
  refine store_row hgd2 ty (.tmp d) y ho2 w.heap.size (by simp [Act.eval, Act.put, hlt]) F hy Z t (heap_alloc_new w _) hs hi h1 ?_
  intro w' hg hr
  refine h w' ⟨hg.os, hg.output, Nat.le_trans (by simp) hg.size, fun k hk _ => (hg.block k (by simp; omega) (by simp; omega)).trans (Below.heap_alloc _ _ _ hk)⟩ hr
end Go.Proofs.YtiegcfgedhgpnaaDoor
