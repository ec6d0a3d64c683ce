/-
  WHO IS THERE: the block of a sta.Table, and what a store does to it. Conditions: the block is whole ('Tab').
-/
import Derived.Test.YtiegcfgedhgpnaaDoorSent
namespace Go.Proofs.YtiegcfgedhgpnaaDoor
open Go.RowKit

/-- An address: six bytes. -/
structure Ad where
  b0 : Int
  b1 : Int
  b2 : Int
  b3 : Int
  b4 : Int
  b5 : Int
def adV (x : Ad) : Value := .agg #[.int .u8 x.b0, .int .u8 x.b1, .int .u8 x.b2, .int .u8 x.b3, .int .u8 x.b4, .int .u8 x.b5]
def adZ : Ad := ⟨0, 0, 0, 0, 0, 0⟩
def eqA (x y : Ad) : Bool := x.b0 == y.b0 && (x.b1 == y.b1 && (x.b2 == y.b2 && (x.b3 == y.b3 && (x.b4 == y.b4 && x.b5 == y.b5))))
theorem eqA_iff (x y : Ad) : eqA x y = true ↔ x = y := by
  cases x; cases y
  simp [eqA]
theorem eqA_self (x : Ad) : eqA x x = true := (eqA_iff x x).2 rfl

/-- One number of the table. -/
structure Sone where
  th : Bool
  a : Ad
  ep : Int
def Sone.zero : Sone := ⟨false, adZ, 0⟩
def scell (o : Sone) : Nat → Value
  | 0 => .bool o.th
  | 1 => .int .u8 o.a.b0
  | 2 => .int .u8 o.a.b1
  | 3 => .int .u8 o.a.b2
  | 4 => .int .u8 o.a.b3
  | 5 => .int .u8 o.a.b4
  | 6 => .int .u8 o.a.b5
  | _ => .int .i64 o.ep
def soneV (o : Sone) : Array Value := #[.bool o.th, .int .u8 o.a.b0, .int .u8 o.a.b1, .int .u8 o.a.b2, .int .u8 o.a.b3, .int .u8 o.a.b4, .int .u8 o.a.b5, .int .i64 o.ep]
def updT (T : Nat → Sone) (j : Nat) (o : Sone) : Nat → Sone := fun i => if i = j then o else T i
theorem updT_same (T : Nat → Sone) (j : Nat) (o : Sone) : updT T j o j = o := by simp [updT]
theorem updT_other (T : Nat → Sone) (i j : Nat) (o : Sone) (h : i ≠ j) : updT T j o i = T i := by simp [updT, h]
theorem updT_self (T : Nat → Sone) (j : Nat) : updT T j (T j) = T := by
  funext i; unfold updT; split
  · rename_i h; rw [h]
  · rfl
theorem updT_updT (T : Nat → Sone) (j : Nat) (o o' : Sone) : updT (updT T j o) j o' = updT T j o' := by
  funext i; unfold updT; split <;> rfl

/-- A hundred and twenty-eight cells that are a table. -/
def TabC (C : Array Value) (T : Nat → Sone) : Prop := C.size = 128 ∧ ∀ j, j < 16 → ∀ c, c < 8 → C[8 * j + c]? = some (scell (T j) c)
def Tab (b : Nat) (w : World) (T : Nat → Sone) : Prop := ∃ C : Array Value, w.heap[b]? = some (.cells C 30 (0, 0)) ∧ TabC C T
section
variable {b : Nat} {w : World} {T : Nat → Sone}
theorem Tab.cell (h : Tab b w T) (j : Nat) (hj : j < 16) (c : Nat) (hc : c < 8) : w.cell? ⟨b, 8 * j + c, none⟩ = some (scell (T j) c) := by
  obtain ⟨C, hb, _, hC⟩ := h
  rw [cell_of_row w b _ _ _ _ hb]; exact hC j hj c hc
theorem Tab.fr (h : Tab b w T) (j : Nat) : w.frozen? ⟨b, j, none⟩ = false := by
  obtain ⟨C, hb, _⟩ := h
  exact frozen_of_row w b j _ _ hb
theorem Tab.lt (h : Tab b w T) : b < w.heap.size := block_lt_of_cell (h.cell 0 (by decide) 0 (by decide))
theorem Tab.gro {row : Option Nat} {w' : World} (h : Tab b w T) (k : Gro row w w') (hr : some b ≠ row) : Tab b w' T := by
  have hlt := h.lt
  obtain ⟨C, hb, hC⟩ := h
  exact ⟨C, (k.block b hlt hr).trans hb, hC⟩
theorem Tab.drew (h : Tab b w T) : Tab b w.drew T := h
theorem Tab.alloc (h : Tab b w T) (o : Obj) : Tab b (w.alloc o) T := h.gro ((Gro.refl none _).alloc _) (by simp)
theorem Tab.set (h : Tab b w T) (j : Nat) (hj : j < 16) (c : Nat) (hc : c < 8) (o : Sone) (v : Value) (hv : scell o c = v) (ho : ∀ c', c' < 8 → c' ≠ c → scell o c' = scell (T j) c') :
    Tab b (w.setCell ⟨b, 8 * j + c, none⟩ v) (updT T j o) := by
  obtain ⟨C, hb, hs, hC⟩ := h
  refine ⟨C.setIfInBounds (8 * j + c) v, heap_setCell_same w b _ _ _ _ hb, by simp [hs], fun j' hj' c' hc' => ?_⟩
  by_cases e : j' = j
  · subst e
    rw [updT_same]
    by_cases e2 : c' = c
    · subst e2
      rw [Array.getElem?_setIfInBounds, if_pos rfl, if_pos (by omega), hv]
    · rw [Array.getElem?_setIfInBounds, if_neg (by omega), hC j' hj' c' hc', ho c' hc' e2]
  · rw [updT_other _ _ _ _ e, Array.getElem?_setIfInBounds, if_neg (by omega), hC j' hj' c' hc']
theorem cells8 {Q : Nat → Prop} (h0 : Q 0) (h1 : Q 1) (h2 : Q 2) (h3 : Q 3) (h4 : Q 4) (h5 : Q 5) (h6 : Q 6) (h7 : Q 7) (c : Nat) (h : c < 8) : Q c := by
  rcases (show c = 0 ∨ c = 1 ∨ c = 2 ∨ c = 3 ∨ c = 4 ∨ c = 5 ∨ c = 6 ∨ c = 7 from by omega) with rfl | rfl | rfl | rfl | rfl | rfl | rfl | rfl
  all_goals assumption
theorem Tab.s7 (h : Tab b w T) (j : Nat) (hj : j < 16) (x : Int) : Tab b (w.setCell ⟨b, 8 * j + 7, none⟩ (.int .i64 x)) (updT T j { T j with ep := x }) :=
  h.set j hj 7 (by decide) _ _ rfl (cells8 (Q := fun c' => c' ≠ 7 → scell { T j with ep := x } c' = scell (T j) c') (fun _ => rfl) (fun _ => rfl) (fun _ => rfl) (fun _ => rfl) (fun _ => rfl) (fun _ => rfl) (fun _ => rfl) (fun e => absurd rfl e))
/-- Seven stores: whether somebody is there, and who. -/
theorem Tab.s06 (h : Tab b w T) (j : Nat) (hj : j < 16) (x : Bool) (a : Ad) :
    Tab b (((((((w.setCell ⟨b, 8 * j, none⟩ (.bool x)).setCell ⟨b, 8 * j + 1, none⟩ (.int .u8 a.b0)).setCell ⟨b, 8 * j + 2, none⟩ (.int .u8 a.b1)).setCell ⟨b, 8 * j + 3, none⟩ (.int .u8 a.b2)).setCell ⟨b, 8 * j + 4, none⟩ (.int .u8 a.b3)).setCell ⟨b, 8 * j + 5, none⟩ (.int .u8 a.b4)).setCell ⟨b, 8 * j + 6, none⟩ (.int .u8 a.b5)) (updT T j ⟨x, a, (T j).ep⟩) := by
  obtain ⟨C, hb, hs, hC⟩ := h
  refine ⟨(((((((C.setIfInBounds (8 * j) (.bool x)).setIfInBounds (8 * j + 1) (.int .u8 a.b0)).setIfInBounds (8 * j + 2) (.int .u8 a.b1)).setIfInBounds (8 * j + 3) (.int .u8 a.b2)).setIfInBounds (8 * j + 4) (.int .u8 a.b3)).setIfInBounds (8 * j + 5) (.int .u8 a.b4)).setIfInBounds (8 * j + 6) (.int .u8 a.b5)),
    heap_setCell_same _ b _ _ _ _ (heap_setCell_same _ b _ _ _ _ (heap_setCell_same _ b _ _ _ _ (heap_setCell_same _ b _ _ _ _ (heap_setCell_same _ b _ _ _ _ (heap_setCell_same _ b _ _ _ _ (heap_setCell_same _ b _ _ _ _ hb)))))), by simp [hs], fun j' hj' c' hc' => ?_⟩
  by_cases e : j' = j
  · subst e
    rw [updT_same]
    have h7 := hC j' hj' 7 (by decide)
    rcases (show c' = 0 ∨ c' = 1 ∨ c' = 2 ∨ c' = 3 ∨ c' = 4 ∨ c' = 5 ∨ c' = 6 ∨ c' = 7 from by omega) with rfl | rfl | rfl | rfl | rfl | rfl | rfl | rfl
    all_goals simp [Array.getElem?_setIfInBounds, scell]
    all_goals first | omega | (rw [h7]; rfl)
  · rw [updT_other _ _ _ _ e, ← hC j' hj' c' hc']
    repeat rw [Array.getElem?_setIfInBounds, if_neg (by omega)]
end

theorem info27 : ∃ i, Tryd.prog.info? 27 = some i ∧ i.size = 8 :=
  Option.map_eq_some_iff.1 (show (Tryd.prog.info? 27).map (·.size) = some 8 by kernel_rfl)
/-- One number of the sixteen, out of the whole. -/
theorem index_at (C : Array Value) (T : Nat → Sone) (h : TabC C T) (k : Nat) (hk : k < 16) (w : World) :
    (Instr.index 28 (.agg C) (.int .i64 k)).run Tryd.prog w = .ok (.agg (soneV (T k))) w := by
  obtain ⟨hs, hC⟩ := h
  obtain ⟨i, hi, hsz⟩ := info27
  have hx : C.extract (k * 8) (k * 8 + 8) = soneV (T k) := by
    apply Array.ext_getElem?
    intro c
    rw [Array.getElem?_extract]
    by_cases hc : c < 8
    · rw [if_pos (by rw [hs]; omega), show k * 8 + c = 8 * k + c from by omega, hC k hk c hc]
      exact cells8 (Q := fun c => some (scell (T k) c) = (soneV (T k))[c]?) rfl rfl rfl rfl rfl rfl rfl rfl c hc
    · rw [if_neg (by rw [hs]; omega)]
      simp [soneV]; omega
  unfold Instr.index
  simp [Sem.run_bind, asIntOf, run_underlying Tryd.underlying28, part, sizeOf, typeInfo, hi, hsz, hx]
  intro h16
  omega
end Go.Proofs.YtiegcfgedhgpnaaDoor
