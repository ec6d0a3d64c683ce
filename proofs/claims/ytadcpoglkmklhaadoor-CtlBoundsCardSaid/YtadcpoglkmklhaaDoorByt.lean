/-
  ROWS OF BYTES: how they lie, how they grow, how they are read. No condition beyond what each theorem states.
-/
import Derived.Test.YtadcpoglkmklhaaDoorSent
import Derived.Laws.BytesArg
import Derived.Laws.CopyOwn
namespace Go.Proofs.YtadcpoglkmklhaaDoor
open Go.RowKit

/-- An address: six bytes. -/
structure Ad where
  b0 : Int
  b1 : Int
  b2 : Int
  b3 : Int
  b4 : Int
  b5 : Int
def adV (x : Ad) : Value := .agg #[.int .u8 x.b0, .int .u8 x.b1, .int .u8 x.b2, .int .u8 x.b3, .int .u8 x.b4, .int .u8 x.b5]
def adL (x : Ad) : List Int := [x.b0, x.b1, x.b2, x.b3, x.b4, x.b5]
def adZ : Ad := ⟨0, 0, 0, 0, 0, 0⟩
/-- Two bytes of a number. -/
def twoL (n : Int) : List Int := [n % 256, n / 256]

theorem info_u8 : ∃ i, Tryd.prog.info? 5 = some i ∧ i.zero = some (.int .u8 0) ∧ i.size = 1 ∧ i.bytes = 1 :=
  have h := Option.map_eq_some_iff.1 (show (Tryd.prog.info? 5).map (fun i => (i.zero, i.size, i.bytes)) = some (some (.int .u8 0), 1, 1) by kernel_rfl)
  by
    obtain ⟨i, h1, h2⟩ := h
    simp at h2
    exact ⟨i, h1, h2.1, h2.2.1, h2.2.2⟩

/-- v is a slice of its own, from block B on, that holds the bytes xs. -/
def Own (B : Nat) (w : World) (v : Value) (xs : List Int) : Prop := w.ownsRow B 5 1 v xs.length (xs.map (Value.int .u8))
theorem Own.weak {B B' : Nat} {w : World} {v : Value} {xs : List Int} (h : Own B w v xs) (hB : B' ≤ B) : Own B' w v xs := by
  obtain ⟨h1, h2⟩ := h
  refine ⟨h1, ?_⟩
  rcases h2 with h2 | ⟨g, cap, cur, h2, h3, h4⟩
  · exact .inl h2
  · exact .inr ⟨g, cap, cur, h2, by omega, h4⟩
theorem Own.gro {B : Nat} {row : Option Nat} {w w' : World} {v : Value} {xs : List Int} (h : Own B w v xs) (k : Gro row w w') (hr : ∀ g, row = some g → g < B) : Own B w' v xs := by
  obtain ⟨h1, h2⟩ := h
  refine ⟨h1, ?_⟩
  rcases h2 with h2 | ⟨g, cap, cur, h2, h3, h4, h5⟩
  · exact .inl h2
  · have hlt : g < w.heap.size := by
      rcases Nat.lt_or_ge g w.heap.size with h | h
      · exact h
      · rw [Array.getElem?_eq_none h] at h4; cases h4
    exact .inr ⟨g, cap, cur, h2, h3, (k.block g hlt (fun e => by have := hr g e.symm; omega)).trans h4, h5⟩
theorem Own.none_ (B : Nat) (w : World) : Own B w (.slice none 0 0) [] := World.ownsRow_nil _ _ _ _

/-- A row just made. -/
theorem own_new (w : World) (xs : List Int) (C : Array Value) (b : Nat) (hb : b = w.heap.size) (hC : C = (xs.map (Value.int .u8)).toArray) (n : Nat) (hn : n = xs.length) (hl : xs.length ≤ 100000) :
    Own w.heap.size (w.alloc (.cells C 5)) (.slice (some ⟨b, 0, none⟩) n n) xs := by
  subst hb hC hn
  refine ⟨by simp, .inr ⟨w.heap.size, xs.length, _, rfl, Nat.le_refl _, heap_alloc_new w _, Nat.le_refl _, by unfold maxLen; omega, by simp, ?_⟩⟩
  rw [Nat.mul_one, List.take_of_length_le (by simp)]
/-- How n bytes lie at an address. -/
def Lie (w : World) (p : Option Addr) (xs : List Int) : Prop := ∀ k, k < xs.length → ∃ b o, p = some ⟨b, o, none⟩ ∧ w.cell? ⟨b, o + k, none⟩ = some (.int .u8 (xs.getD k 0))
theorem Own.lie {B : Nat} {w : World} {v : Value} {xs : List Int} (h : Own B w v xs) : ∃ p cap, v = .slice p xs.length cap ∧ xs.length ≤ cap ∧ Lie w p xs ∧ (∀ a, p = some a → B ≤ a.block ∧ a.block < w.heap.size) := by
  obtain ⟨h1, h2⟩ := h
  rcases h2 with ⟨rfl, h0⟩ | ⟨g, cap, cur, rfl, h3, h4, h5, h6, h7, h8⟩
  · rw [h0]
    exact ⟨none, 0, rfl, Nat.le_refl _, fun k hk => by omega, fun a h => by cases h⟩
  · refine ⟨_, cap, rfl, h5, fun k hk => ⟨g, 0, rfl, ?_⟩, ?_⟩
    · rw [cell_of_row _ _ _ _ _ _ h4, Nat.zero_add]
      have : (cur.toList.take (xs.length * 1))[k]? = some (.int .u8 (xs.getD k 0)) := by
        rw [h8, List.getElem?_map, List.getElem?_eq_getElem hk]
        simp [List.getD_eq_getElem?_getD, List.getElem?_eq_getElem hk]
      rw [List.getElem?_take] at this
      split at this
      · simpa using this
      · cases this
    · intro a e
      cases e
      refine ⟨h3, ?_⟩
      rcases Nat.lt_or_ge g w.heap.size with h | h
      · exact h
      · rw [Array.getElem?_eq_none h] at h4; cases h4

theorem Lie.lt {w : World} {b o : Nat} {xs : List Int} (h : Lie w (some ⟨b, o, none⟩) xs) (h0 : 0 < xs.length) : b < w.heap.size := by
  obtain ⟨b', o', e, hc⟩ := h 0 h0
  cases e
  exact block_lt_of_cell hc
theorem Lie.gro {w w' : World} {p : Option Addr} {xs : List Int} {row : Option Nat} (h : Lie w p xs) (k : Gro row w w') (hr : ∀ a, p = some a → some a.block ≠ row) : Lie w' p xs := by
  intro j hj
  obtain ⟨b, o, e, hc⟩ := h j hj
  exact ⟨b, o, e, (k.cell (p := ⟨b, o + j, none⟩) (block_lt_of_cell hc) (by have := hr _ e; exact this)).trans hc⟩
theorem Lie.nil (w : World) (p : Option Addr) : Lie w p [] := fun k hk => by simp at hk
/-- Bytes at an address. -/
def LieA (w : World) (a : Addr) (xs : List Int) : Prop := ∀ j, j < xs.length → w.cell? (a.add j) = some (.int .u8 (xs.getD j 0))
theorem LieA.lie {w : World} {b o : Nat} {xs : List Int} (h : LieA w ⟨b, o, none⟩ xs) : Lie w (some ⟨b, o, none⟩) xs := by
  intro k hk
  have := h k hk
  have hadd : (⟨b, o, none⟩ : Addr).add k = ⟨b, o + k, none⟩ := by unfold Addr.add; split <;> simp_all
  rw [hadd] at this
  exact ⟨b, o, rfl, this⟩
theorem lie_two (w w' : World) (x y : Int) (b : Nat) (hb : b = w.heap.size) (k : Gro none (w.alloc (.cells #[.int .u8 x, .int .u8 y] 5)) w') : LieA w' ⟨b, 0, none⟩ [x, y] := by
  subst hb
  have hb' := (k.block w.heap.size (by simp) (by simp)).trans (heap_alloc_new w _)
  intro j hj
  have hadd : (⟨w.heap.size, 0, none⟩ : Addr).add j = ⟨w.heap.size, j, none⟩ := by unfold Addr.add; split <;> simp_all
  rw [hadd, cell_of_row _ _ _ _ _ _ hb']
  simp at hj
  rcases (show j = 0 ∨ j = 1 from by omega) with rfl | rfl <;> rfl
/-- Bytes in the middle of a block. -/
theorem lie_mid {w w' : World} {b off : Nat} {C : Array Value} {t : TypeId} {row : Option Nat} (xs : List Int) (hb : w.heap[b]? = some (.cells C t (0, 0))) (h : Gro row w w') (hr : some b ≠ row) (hC : ∀ j, j < xs.length → C[off + j]? = some (.int .u8 (xs.getD j 0))) : LieA w' ⟨b, off, none⟩ xs := by
  have hlt : b < w.heap.size := by
    rcases Nat.lt_or_ge b w.heap.size with h | h
    · exact h
    · rw [Array.getElem?_eq_none h] at hb; cases hb
  have hb' := (h.block b hlt hr).trans hb
  intro j hj
  have hadd : (⟨b, off, none⟩ : Addr).add j = ⟨b, off + j, none⟩ := by unfold Addr.add; split <;> simp_all
  rw [hadd, cell_of_row _ _ _ _ _ _ hb']
  exact hC j hj
theorem six {P : Nat → Prop} (h0 : P 0) (h1 : P 1) (h2 : P 2) (h3 : P 3) (h4 : P 4) (h5 : P 5) (j : Nat) (h : j < 6) : P j := by
  rcases (show j = 0 ∨ j = 1 ∨ j = 2 ∨ j = 3 ∨ j = 4 ∨ j = 5 from by omega) with rfl | rfl | rfl | rfl | rfl | rfl <;> assumption
theorem lie_one (w w' : World) (x : Int) (b : Nat) (hb : b = w.heap.size) (k : Gro none (w.alloc (.cells #[.int .u8 x] 5)) w') : LieA w' ⟨b, 0, none⟩ [x] := by
  subst hb
  have hb' := (k.block w.heap.size (by simp) (by simp)).trans (heap_alloc_new w _)
  intro j hj
  have hadd : (⟨w.heap.size, 0, none⟩ : Addr).add j = ⟨w.heap.size, j, none⟩ := by unfold Addr.add; split <;> simp_all
  rw [hadd, cell_of_row _ _ _ _ _ _ hb']
  simp at hj
  subst hj
  rfl
/-- 'append(s, x...)' of bytes. -/
theorem app_bytes {ops : Array Oper} {rest : List Oper} {o : Oper} {a : Act} {w : World} {Q : Exit → Act → World → Prop} (hgd : o.guard = none) (s x : Operand)
    (ho : o.op = .call { callee := .builtin .append, args := #[s, x], argTypes := #[32, 32] })
    (w0 : World) (xs ys : List Int) (v : Value) (hs : a.eval s = v) (hown : Own w0.heap.size w v xs) (hg : Gro none w0 w)
    (ad : Addr) (m c : Nat) (hx : a.eval x = .slice (some ad) m c) (hl : ys.length = m) (hys : LieA w ad ys) (hlen : xs.length + m ≤ 100000)
    (h : ∀ v' w', Own w0.heap.size w' v' (xs ++ ys) → Gro none w0 w' → wpList Tryd.prog ops Q rest (a.put o.dst v') w') : wpList Tryd.prog ops Q (o :: rest) a w := by
  obtain ⟨i0, hi, hz0, hz1, hz2⟩ := info_u8
  refine wpList_append_own w hgd s x 32 ho w0.heap.size 5 i0 (.int .u8 0) 1 1 Tryd.underlying32 hi hz0 hz1 hz2 rfl (by decide) v _ _ hs hown ad m c (ys.map (Value.int .u8)) hx (by simp [hl]) ?_ ?_ (by unfold maxLen; omega) (by omega) hg.size ?_
  · intro j u hj
    have hjm : j < m := by
      rcases Nat.lt_or_ge j m with h | h
      · exact h
      · rw [List.getElem?_eq_none (by simp; omega)] at hj; cases hj
    rw [hys j (by omega), ← hj, List.getElem?_map, List.getElem?_eq_getElem (by omega)]
    simp [List.getD_eq_getElem?_getD, List.getElem?_eq_getElem (show j < ys.length by omega)]
  · intro u hu
    simp at hu
    obtain ⟨n, _, rfl⟩ := hu
    rfl
  · intro v' w' h1 h2 _
    refine h v' w' ?_ ?_
    · unfold Own
      simpa [hl] using h1
    · refine ⟨h2.os.trans hg.os, h2.output.trans hg.output, Nat.le_trans hg.size h2.size, fun k hk _ => ?_⟩
      refine (h2.block k (Nat.lt_of_lt_of_le hk hg.size) ?_).trans (hg.block k hk (by simp))
      intro e
      have := (hown.lt) k e.symm
      omega
end Go.Proofs.YtadcpoglkmklhaaDoor
