/-
  ROWS OF BYTES: how they lie, how they grow, how they are read. No condition beyond what each theorem states.
-/
import Derived.Test.YtflckkeaakmojaaDoorSent
import Derived.Laws.BytesArg
import Derived.Laws.CopyOwn
import Derived.Laws.BitsAllLaws
import Derived.Maps.AppendAt
namespace Go.Proofs.YtflckkeaakmojaaDoor
open Go.RowKit

/-- An address: six bytes. -/
structure Ad where
  b0 : Int
  b1 : Int
  b2 : Int
  b3 : Int
  b4 : Int
  b5 : Int
def adV (x : Ad) : Value := .agg #[.int .u8 x.b0, .int .u8 x.b1, .int .u8 x.b2, .int .u8 x.b3, .int .u8 x.b4, .int .u8 x.b5]
def adL (x : Ad) : List Int := [x.b0, x.b1, x.b2, x.b3, x.b4, x.b5]
def adZ : Ad := ⟨0, 0, 0, 0, 0, 0⟩
/-- Two bytes of a number. -/
def twoL (n : Int) : List Int := [n % 256, n / 256]

theorem info_u8 : ∃ i, Tryd.prog.info? 5 = some i ∧ i.zero = some (.int .u8 0) ∧ i.size = 1 ∧ i.bytes = 1 :=
  have h := Option.map_eq_some_iff.1 (show (Tryd.prog.info? 5).map (fun i => (i.zero, i.size, i.bytes)) = some (some (.int .u8 0), 1, 1) by kernel_rfl)
  by
    obtain ⟨i, h1, h2⟩ := h
    simp at h2
    exact ⟨i, h1, h2.1, h2.2.1, h2.2.2⟩

/-- v is a slice of its own, from block B on, that holds the bytes xs. -/
def Own (B : Nat) (w : World) (v : Value) (xs : List Int) : Prop := w.ownsRow B 5 1 v xs.length (xs.map (Value.int .u8))
theorem Own.weak {B B' : Nat} {w : World} {v : Value} {xs : List Int} (h : Own B w v xs) (hB : B' ≤ B) : Own B' w v xs := by
  obtain ⟨h1, h2⟩ := h
  refine ⟨h1, ?_⟩
  rcases h2 with h2 | ⟨g, cap, cur, h2, h3, h4⟩
  · exact .inl h2
  · exact .inr ⟨g, cap, cur, h2, by omega, h4⟩
theorem Own.gro {B : Nat} {row : Option Nat} {w w' : World} {v : Value} {xs : List Int} (h : Own B w v xs) (k : Gro row w w') (hr : ∀ g, row = some g → g < B) : Own B w' v xs := by
  obtain ⟨h1, h2⟩ := h
  refine ⟨h1, ?_⟩
  rcases h2 with h2 | ⟨g, cap, cur, h2, h3, h4, h5⟩
  · exact .inl h2
  · have hlt : g < w.heap.size := by
      rcases Nat.lt_or_ge g w.heap.size with h | h
      · exact h
      · rw [Array.getElem?_eq_none h] at h4; cases h4
    exact .inr ⟨g, cap, cur, h2, h3, (k.block g hlt (fun e => by have := hr g e.symm; omega)).trans h4, h5⟩
theorem Own.none_ (B : Nat) (w : World) : Own B w (.slice none 0 0) [] := World.ownsRow_nil _ _ _ _

/-- A row just made. -/
theorem own_new (w : World) (xs : List Int) (C : Array Value) (b : Nat) (hb : b = w.heap.size) (hC : C = (xs.map (Value.int .u8)).toArray) (n : Nat) (hn : n = xs.length) (hl : xs.length ≤ 100000) :
    Own w.heap.size (w.alloc (.cells C 5)) (.slice (some ⟨b, 0, none⟩) n n) xs := by
  subst hb hC hn
  refine ⟨by simp, .inr ⟨w.heap.size, xs.length, _, rfl, Nat.le_refl _, heap_alloc_new w _, Nat.le_refl _, by unfold maxLen; omega, by simp, ?_⟩⟩
  rw [Nat.mul_one, List.take_of_length_le (by simp)]
/-- How n bytes lie at an address. -/
def Lie (w : World) (p : Option Addr) (xs : List Int) : Prop := ∀ k, k < xs.length → ∃ b o, p = some ⟨b, o, none⟩ ∧ w.cell? ⟨b, o + k, none⟩ = some (.int .u8 (xs.getD k 0))
theorem Own.lie {B : Nat} {w : World} {v : Value} {xs : List Int} (h : Own B w v xs) : ∃ p cap, v = .slice p xs.length cap ∧ xs.length ≤ cap ∧ Lie w p xs ∧ (∀ a, p = some a → B ≤ a.block ∧ a.block < w.heap.size) := by
  obtain ⟨h1, h2⟩ := h
  rcases h2 with ⟨rfl, h0⟩ | ⟨g, cap, cur, rfl, h3, h4, h5, h6, h7, h8⟩
  · rw [h0]
    exact ⟨none, 0, rfl, Nat.le_refl _, fun k hk => by omega, fun a h => by cases h⟩
  · refine ⟨_, cap, rfl, h5, fun k hk => ⟨g, 0, rfl, ?_⟩, ?_⟩
    · rw [cell_of_row _ _ _ _ _ _ h4, Nat.zero_add]
      have : (cur.toList.take (xs.length * 1))[k]? = some (.int .u8 (xs.getD k 0)) := by
        rw [h8, List.getElem?_map, List.getElem?_eq_getElem hk]
        simp [List.getD_eq_getElem?_getD, List.getElem?_eq_getElem hk]
      rw [List.getElem?_take] at this
      split at this
      · simpa using this
      · cases this
    · intro a e
      cases e
      refine ⟨h3, ?_⟩
      rcases Nat.lt_or_ge g w.heap.size with h | h
      · exact h
      · rw [Array.getElem?_eq_none h] at h4; cases h4

theorem Lie.lt {w : World} {b o : Nat} {xs : List Int} (h : Lie w (some ⟨b, o, none⟩) xs) (h0 : 0 < xs.length) : b < w.heap.size := by
  obtain ⟨b', o', e, hc⟩ := h 0 h0
  cases e
  exact block_lt_of_cell hc
theorem Lie.gro {w w' : World} {p : Option Addr} {xs : List Int} {row : Option Nat} (h : Lie w p xs) (k : Gro row w w') (hr : ∀ a, p = some a → some a.block ≠ row) : Lie w' p xs := by
  intro j hj
  obtain ⟨b, o, e, hc⟩ := h j hj
  exact ⟨b, o, e, (k.cell (p := ⟨b, o + j, none⟩) (block_lt_of_cell hc) (by have := hr _ e; exact this)).trans hc⟩
theorem Lie.nil (w : World) (p : Option Addr) : Lie w p [] := fun k hk => by simp at hk
/-- Bytes at an address. -/
def LieA (w : World) (a : Addr) (xs : List Int) : Prop := ∀ j, j < xs.length → w.cell? (a.add j) = some (.int .u8 (xs.getD j 0))
theorem LieA.lie {w : World} {b o : Nat} {xs : List Int} (h : LieA w ⟨b, o, none⟩ xs) : Lie w (some ⟨b, o, none⟩) xs := by
  intro k hk
  have := h k hk
  have hadd : (⟨b, o, none⟩ : Addr).add k = ⟨b, o + k, none⟩ := by unfold Addr.add; split <;> simp_all
  rw [hadd] at this
  exact ⟨b, o, rfl, this⟩
theorem lie_four (w w' : World) (x0 x1 x2 x3 : Int) (b : Nat) (hb : b = w.heap.size) (k : Gro none (w.alloc (.cells #[.int .u8 x0, .int .u8 x1, .int .u8 x2, .int .u8 x3] 5)) w') : LieA w' ⟨b, 0, none⟩ [x0, x1, x2, x3] := by
  subst hb
  have hb' := (k.block w.heap.size (by simp) (by simp)).trans (heap_alloc_new w _)
  intro j hj
  have hadd : (⟨w.heap.size, 0, none⟩ : Addr).add j = ⟨w.heap.size, j, none⟩ := by unfold Addr.add; split <;> simp_all
  rw [hadd, cell_of_row _ _ _ _ _ _ hb']
  simp at hj
  rcases (show j = 0 ∨ j = 1 ∨ j = 2 ∨ j = 3 from by omega) with rfl | rfl | rfl | rfl <;> rfl
theorem lie_two (w w' : World) (x y : Int) (b : Nat) (hb : b = w.heap.size) (k : Gro none (w.alloc (.cells #[.int .u8 x, .int .u8 y] 5)) w') : LieA w' ⟨b, 0, none⟩ [x, y] := by
  subst hb
  have hb' := (k.block w.heap.size (by simp) (by simp)).trans (heap_alloc_new w _)
  intro j hj
  have hadd : (⟨w.heap.size, 0, none⟩ : Addr).add j = ⟨w.heap.size, j, none⟩ := by unfold Addr.add; split <;> simp_all
  rw [hadd, cell_of_row _ _ _ _ _ _ hb']
  simp at hj
  rcases (show j = 0 ∨ j = 1 from by omega) with rfl | rfl <;> rfl
theorem lie_six (w w' : World) (x0 x1 x2 x3 x4 x5 : Int) (b : Nat) (t : TypeId) (hb : b = w.heap.size) (k : Gro none (w.alloc (.cells #[.int .u8 x0, .int .u8 x1, .int .u8 x2, .int .u8 x3, .int .u8 x4, .int .u8 x5] t)) w') : LieA w' ⟨b, 0, none⟩ [x0, x1, x2, x3, x4, x5] := by
  subst hb
  have hb' := (k.block w.heap.size (by simp) (by simp)).trans (heap_alloc_new w _)
  intro j hj
  have hadd : (⟨w.heap.size, 0, none⟩ : Addr).add j = ⟨w.heap.size, j, none⟩ := by unfold Addr.add; split <;> simp_all
  rw [hadd, cell_of_row _ _ _ _ _ _ hb']
  simp at hj
  rcases (show j = 0 ∨ j = 1 ∨ j = 2 ∨ j = 3 ∨ j = 4 ∨ j = 5 from by omega) with rfl | rfl | rfl | rfl | rfl | rfl <;> rfl
/-- Bytes in the middle of a block. -/
theorem lie_mid {w w' : World} {b off : Nat} {C : Array Value} {t : TypeId} {row : Option Nat} (xs : List Int) (hb : w.heap[b]? = some (.cells C t (0, 0))) (h : Gro row w w') (hr : some b ≠ row) (hC : ∀ j, j < xs.length → C[off + j]? = some (.int .u8 (xs.getD j 0))) : LieA w' ⟨b, off, none⟩ xs := by
  have hlt : b < w.heap.size := by
    rcases Nat.lt_or_ge b w.heap.size with h | h
    · exact h
    · rw [Array.getElem?_eq_none h] at hb; cases hb
  have hb' := (h.block b hlt hr).trans hb
  intro j hj
  have hadd : (⟨b, off, none⟩ : Addr).add j = ⟨b, off + j, none⟩ := by unfold Addr.add; split <;> simp_all
  rw [hadd, cell_of_row _ _ _ _ _ _ hb']
  exact hC j hj
theorem six {P : Nat → Prop} (h0 : P 0) (h1 : P 1) (h2 : P 2) (h3 : P 3) (h4 : P 4) (h5 : P 5) (j : Nat) (h : j < 6) : P j := by
  rcases (show j = 0 ∨ j = 1 ∨ j = 2 ∨ j = 3 ∨ j = 4 ∨ j = 5 from by omega) with rfl | rfl | rfl | rfl | rfl | rfl <;> assumption
theorem lie_one (w w' : World) (x : Int) (b : Nat) (hb : b = w.heap.size) (k : Gro none (w.alloc (.cells #[.int .u8 x] 5)) w') : LieA w' ⟨b, 0, none⟩ [x] := by
  subst hb
  have hb' := (k.block w.heap.size (by simp) (by simp)).trans (heap_alloc_new w _)
  intro j hj
  have hadd : (⟨w.heap.size, 0, none⟩ : Addr).add j = ⟨w.heap.size, j, none⟩ := by unfold Addr.add; split <;> simp_all
  rw [hadd, cell_of_row _ _ _ _ _ _ hb']
  simp at hj
  subst hj
  rfl
/-- 'append(s, x...)' of bytes. -/
theorem app_bytes {ops : Array Oper} {rest : List Oper} {o : Oper} {a : Act} {w : World} {Q : Exit → Act → World → Prop} (hgd : o.guard = none) (s x : Operand)
    (ho : o.op = .call { callee := .builtin .append, args := #[s, x], argTypes := #[28, 28] })
    (w0 : World) (xs ys : List Int) (v : Value) (hs : a.eval s = v) (hown : Own w0.heap.size w v xs) (hg : Gro none w0 w)
    (ad : Addr) (m c : Nat) (hx : a.eval x = .slice (some ad) m c) (hl : ys.length = m) (hys : LieA w ad ys) (hlen : xs.length + m ≤ 100000)
    (h : ∀ v' w', Own w0.heap.size w' v' (xs ++ ys) → Gro none w0 w' → wpList Tryd.prog ops Q rest (a.put o.dst v') w') : wpList Tryd.prog ops Q (o :: rest) a w := by
  obtain ⟨i0, hi, hz0, hz1, hz2⟩ := info_u8
  refine wpList_append_own w hgd s x 28 ho w0.heap.size 5 i0 (.int .u8 0) 1 1 Tryd.underlying28 hi hz0 hz1 hz2 rfl (by decide) v _ _ hs hown ad m c (ys.map (Value.int .u8)) hx (by simp [hl]) ?_ ?_ (by unfold maxLen; omega) (by omega) hg.size ?_
  · intro j u hj
    have hjm : j < m := by
      rcases Nat.lt_or_ge j m with h | h
      · exact h
      · rw [List.getElem?_eq_none (by simp; omega)] at hj; cases hj
    rw [hys j (by omega), ← hj, List.getElem?_map, List.getElem?_eq_getElem (by omega)]
    simp [List.getD_eq_getElem?_getD, List.getElem?_eq_getElem (show j < ys.length by omega)]
  · intro u hu
    simp at hu
    obtain ⟨n, _, rfl⟩ := hu
    rfl
  · intro v' w' h1 h2 _
    refine h v' w' ?_ ?_
    · unfold Own
      simpa [hl] using h1
    · refine ⟨h2.os.trans hg.os, h2.output.trans hg.output, Nat.le_trans hg.size h2.size, fun k hk _ => ?_⟩
      refine (h2.block k (Nat.lt_of_lt_of_le hk hg.size) ?_).trans (hg.block k hk (by simp))
      intro e
      have := (hown.lt) k e.symm
      omega
/-- 'append(s, x...)' of bytes; and what else stays. -/
theorem app_bytes_at {ops : Array Oper} {rest : List Oper} {o : Oper} {a : Act} {w : World} {Q : Exit → Act → World → Prop} (hgd : o.guard = none) (s x : Operand)
    (ho : o.op = .call { callee := .builtin .append, args := #[s, x], argTypes := #[28, 28] })
    (w0 : World) (xs ys : List Int) (v : Value) (hs : a.eval s = v) (hown : Own w0.heap.size w v xs) (hg : Gro none w0 w)
    (ad : Addr) (m c : Nat) (hx : a.eval x = .slice (some ad) m c) (hl : ys.length = m) (hys : LieA w ad ys) (hlen : xs.length + m ≤ 100000)
    (h : ∀ v' w', Own w0.heap.size w' v' (xs ++ ys) → Gro none w0 w' → (∀ B, B < w.heap.size → some B ≠ v.ownBlock → w'.heap[B]? = w.heap[B]? ∧ some B ≠ v'.ownBlock) → wpList Tryd.prog ops Q rest (a.put o.dst v') w') : wpList Tryd.prog ops Q (o :: rest) a w := by
  obtain ⟨i0, hi, hz0, hz1, hz2⟩ := info_u8
  refine wpList_append_own_at w hgd s x 28 ho w0.heap.size 5 i0 (.int .u8 0) 1 1 Tryd.underlying28 hi hz0 hz1 hz2 rfl (by decide) v _ _ hs hown ad m c (ys.map (Value.int .u8)) hx (by simp [hl]) ?_ ?_ (by unfold maxLen; omega) (by omega) hg.size ?_
  · intro j u hj
    have hjm : j < m := by
      rcases Nat.lt_or_ge j m with h | h
      · exact h
      · rw [List.getElem?_eq_none (by simp; omega)] at hj; cases hj
    rw [hys j (by omega), ← hj, List.getElem?_map, List.getElem?_eq_getElem (by omega)]
    simp [List.getD_eq_getElem?_getD, List.getElem?_eq_getElem (show j < ys.length by omega)]
  · intro u hu
    simp at hu
    obtain ⟨n, _, rfl⟩ := hu
    rfl
  · intro v' w' h1 h2 _ hat
    refine h v' w' ?_ ?_ ?_
    · unfold Own
      simpa [hl] using h1
    · refine ⟨h2.os.trans hg.os, h2.output.trans hg.output, Nat.le_trans hg.size h2.size, fun k hk _ => ?_⟩
      refine (h2.block k (Nat.lt_of_lt_of_le hk hg.size) ?_).trans (hg.block k hk (by simp))
      intro e
      have := (hown.lt) k e.symm
      omega
    · intro B hB hne
      refine ⟨h2.block B hB hne, ?_⟩
      rcases hat with e | e
      · rw [e]; exact hne
      · rw [e]; simp; omega

theorem or_small (a b : Nat) (ha : a < 4611686018427387904) (hb : b < 4611686018427387904) : bits .or .i64 (a : Int) (b : Int) = ((a ||| b : Nat) : Int) := by
  have hx : a ||| b < 2 ^ 62 := Nat.or_lt_two_pow (by omega) (by omega)
  have h1 : (BitVec.ofInt 64 (a : Int)).toNat = a := by
    rw [BitVec.ofInt_natCast, BitVec.toNat_ofNat]; exact Nat.mod_eq_of_lt (by omega)
  have h2 : (BitVec.ofInt 64 (b : Int)).toNat = b := by
    rw [BitVec.ofInt_natCast, BitVec.toNat_ofNat]; exact Nat.mod_eq_of_lt (by omega)
  show IntKind.i64.wrap ((BitVec.ofInt 64 (a : Int) ||| BitVec.ofInt 64 (b : Int)).toNat : Int) = _
  rw [BitVec.toNat_or, h1, h2]
  simp [IntKind.wrap, IntKind.bits, IntKind.signed]
  omega
/-- Two bytes as a number. -/
theorem or_two (x y : Int) (hx : 0 ≤ x ∧ x < 256) (hy : 0 ≤ y ∧ y < 256) : bits .or .i64 x (y * 256) = x + 256 * y := by
  obtain ⟨a, rfl⟩ := Int.eq_ofNat_of_zero_le hx.1
  obtain ⟨b, rfl⟩ := Int.eq_ofNat_of_zero_le hy.1
  have e : ((b : Int) * 256) = ((b * 256 : Nat) : Int) := by omega
  rw [e, or_small a (b * 256) (by omega) (by omega), Nat.or_comm, nat_join 8 (b * 256) a (by omega) (by omega)]
  omega

/-- 'append(s, x...)' of bytes, as one step of a region that draws its order. -/
theorem step_app {ops : Array Oper} {o : Oper} {a : Act} {w : World} {K : Act → World → Prop} {Q : Exit → Act → World → Prop} {E : Prop} (hgd : o.guard = none) (s x : Operand)
    (ho : o.op = .call { callee := .builtin .append, args := #[s, x], argTypes := #[28, 28] })
    (w0 : World) (xs ys : List Int) (v : Value) (hs : a.eval s = v) (hown : Own w0.heap.size w v xs) (hg : Gro none w0 w)
    (ad : Addr) (m c : Nat) (hx : a.eval x = .slice (some ad) m c) (hl : ys.length = m) (hys : LieA w ad ys) (hlen : xs.length + m ≤ 100000)
    (h : ∀ v' w', Own w0.heap.size w' v' (xs ++ ys) → Gro none w0 w' → K (a.put o.dst v') w') : if Region.wanted o (yielded ops a.tmps) = true then Oper.wp Tryd.prog o a w K Q else E := by
  have hw : Region.wanted o (yielded ops a.tmps) = true := by simp [Region.wanted, hgd]
  rw [if_pos hw]
  obtain ⟨i0, hi, hz0, hz1, hz2⟩ := info_u8
  refine wp_append_own w s x 28 ho w0.heap.size 5 i0 (.int .u8 0) 1 1 Tryd.underlying28 hi hz0 hz1 hz2 rfl (by decide) v _ _ hs hown ad m c (ys.map (Value.int .u8)) hx (by simp [hl]) ?_ ?_ (by unfold maxLen; omega) (by omega) hg.size ?_
  · intro j u hj
    have hjm : j < m := by
      rcases Nat.lt_or_ge j m with h | h
      · exact h
      · rw [List.getElem?_eq_none (by simp; omega)] at hj; cases hj
    rw [hys j (by omega), ← hj, List.getElem?_map, List.getElem?_eq_getElem (by omega)]
    simp [List.getD_eq_getElem?_getD, List.getElem?_eq_getElem (show j < ys.length by omega)]
  · intro u hu
    simp at hu
    obtain ⟨n, _, rfl⟩ := hu
    rfl
  · intro v' w' h1 h2 _
    refine h v' w' ?_ ?_
    · unfold Own
      simpa [hl] using h1
    · refine ⟨h2.os.trans hg.os, h2.output.trans hg.output, Nat.le_trans hg.size h2.size, fun k hk _ => ?_⟩
      refine (h2.block k (Nat.lt_of_lt_of_le hk hg.size) ?_).trans (hg.block k hk (by simp))
      intro e
      have := (hown.lt) k e.symm
      omega

theorem Gro.setRow {a w : World} {g : Nat} (h : Gro (some g) a w) (cs : Array Value) : Gro (some g) a (w.setRow g cs) :=
  ⟨h.os, h.output, by simpa [World.setRow] using h.size, fun k hk hr => (setRow_other w g k cs (fun e => hr (by rw [e]))).trans (h.block k hk hr)⟩
/-- 'copy(x.f[:], b[i:])' of six bytes, as one step of a region that draws its order. -/
theorem step_copy6 {ops : Array Oper} {o : Oper} {a : Act} {w : World} {K : Act → World → Prop} {Q : Exit → Act → World → Prop} {E : Prop} (hgd : o.guard = none) (d s : Operand)
    (ho : o.op = .call { callee := .builtin .copy, args := #[d, s], argTypes := #[28, 28] })
    (g off dc : Nat) (ad : Addr) (m c : Nat) (hd : a.eval d = .slice (some ⟨g, off, none⟩) 6 dc) (hs : a.eval s = .slice (some ad) m c) (hm : 6 ≤ m)
    (cur : List Value) (t : TypeId) (hg : w.heap[g]? = some (.cells cur.toArray t (0, 0))) (x : Ad) (hx : LieA w ad (adL x)) (hfit : off + 6 ≤ cur.length)
    (h : ∀ w', w'.heap[g]? = some (.cells (splice cur off ((adL x).map (Value.int .u8))).toArray t (0, 0)) → Gro (some g) w w' → K (a.put o.dst (goInt 6)) w') :
    if Region.wanted o (yielded ops a.tmps) = true then Oper.wp Tryd.prog o a w K Q else E := by
  have hw : Region.wanted o (yielded ops a.tmps) = true := by simp [Region.wanted, hgd]
  rw [if_pos hw]
  obtain ⟨i0, hi, hz0, hz1, hz2⟩ := info_u8
  have hl6 : ((adL x).map (Value.int .u8)).length = 6 := rfl
  have hrun := run_copy_row (P := Tryd.prog) w 28 28 o.type 5 g off 6 dc ad m c cur.toArray t ((adL x).map (Value.int .u8)) Tryd.underlying28 (by rw [hi]; simp [hz1]) hg (by rw [hl6]; exact (Nat.min_eq_right hm).symm) ?_ (by simpa [hl6] using hfit) ?_
  · unfold Oper.wp
    simp [execOp, ho, resolve, invoke, builtin, hd, hs, hrun, Result.andThen]
    exact h _ (show _ = _ by simpa [splice] using setRow_heap w g _ _ t _ hg) ((Gro.refl _ _).setRow _)
  · intro j v hj
    have hjm : j < 6 := by
      rcases Nat.lt_or_ge j 6 with h | h
      · exact h
      · rw [List.getElem?_eq_none (by rw [hl6]; omega)] at hj; cases hj
    rw [hx j hjm, ← hj, List.getElem?_map, List.getElem?_eq_getElem (show j < (adL x).length from hjm)]
    simp [List.getD_eq_getElem?_getD, List.getElem?_eq_getElem (show j < (adL x).length from hjm)]
  · intro u hu
    simp at hu
    obtain ⟨n, _, rfl⟩ := hu
    rfl
/-- Some bytes of a row. -/
theorem Lie.six {w : World} {b o : Nat} {bs : List Int} (h : Lie w (some ⟨b, o, none⟩) bs) (i : Nat) (hi : i + 6 ≤ bs.length) : LieA w ⟨b, o + i, none⟩ [bs.getD i 0, bs.getD (i + 1) 0, bs.getD (i + 2) 0, bs.getD (i + 3) 0, bs.getD (i + 4) 0, bs.getD (i + 5) 0] := by
  intro j hj
  have hadd : (⟨b, o + i, none⟩ : Addr).add j = ⟨b, o + i + j, none⟩ := by unfold Addr.add; split <;> simp_all
  have hj : j < 6 := hj
  obtain ⟨b', o', e, hc⟩ := h (i + j) (by omega)
  cases e
  rw [hadd, Nat.add_assoc, hc]
  rcases (show j = 0 ∨ j = 1 ∨ j = 2 ∨ j = 3 ∨ j = 4 ∨ j = 5 from by omega) with rfl | rfl | rfl | rfl | rfl | rfl <;> rfl
theorem gen_world {F : World → Prop} {W : World} (P : World → Prop) (hP : P W) (h : ∀ W', P W' → F W') : F W := h W hP
/-- Stores that fill a block. -/
theorem store14 (W : World) (B : Nat) (t : TypeId) (c0 c1 c2 c3 c4 c5 c6 c7 c8 c9 c10 c11 c12 c13 v0 v1 v2 v3 v4 v5 v6 v7 v8 v9 v10 v11 v12 v13 : Value) (hb : W.heap[B]? = some (.cells #[c0, c1, c2, c3, c4, c5, c6, c7, c8, c9, c10, c11, c12, c13] t (0, 0))) :
    ((((((((((((((W.setCell ⟨B, 0, none⟩ v0).setCell ⟨B, 1, none⟩ v1).setCell ⟨B, 2, none⟩ v2).setCell ⟨B, 3, none⟩ v3).setCell ⟨B, 4, none⟩ v4).setCell ⟨B, 5, none⟩ v5).setCell ⟨B, 6, none⟩ v6).setCell ⟨B, 7, none⟩ v7).setCell ⟨B, 8, none⟩ v8).setCell ⟨B, 9, none⟩ v9).setCell ⟨B, 10, none⟩ v10).setCell ⟨B, 11, none⟩ v11).setCell ⟨B, 12, none⟩ v12).setCell ⟨B, 13, none⟩ v13).heap[B]? = some (.cells #[v0, v1, v2, v3, v4, v5, v6, v7, v8, v9, v10, v11, v12, v13] t (0, 0)) := by
  have h := heap_setCell_same _ B 13 _ _ v13 (heap_setCell_same _ B 12 _ _ v12 (heap_setCell_same _ B 11 _ _ v11 (heap_setCell_same _ B 10 _ _ v10 (heap_setCell_same _ B 9 _ _ v9 (heap_setCell_same _ B 8 _ _ v8 (heap_setCell_same _ B 7 _ _ v7 (heap_setCell_same _ B 6 _ _ v6 (heap_setCell_same _ B 5 _ _ v5 (heap_setCell_same _ B 4 _ _ v4 (heap_setCell_same _ B 3 _ _ v3 (heap_setCell_same _ B 2 _ _ v2 (heap_setCell_same _ B 1 _ _ v1 (heap_setCell_same _ B 0 _ _ v0 hb)))))))))))))
  simp only [List.setIfInBounds_toArray, List.set_cons_zero, List.set_cons_succ] at h
  exact h
theorem store15 (W : World) (B : Nat) (t : TypeId) (c0 c1 c2 c3 c4 c5 c6 c7 c8 c9 c10 c11 c12 c13 c14 v0 v1 v2 v3 v4 v5 v6 v7 v8 v9 v10 v11 v12 v13 v14 : Value) (hb : W.heap[B]? = some (.cells #[c0, c1, c2, c3, c4, c5, c6, c7, c8, c9, c10, c11, c12, c13, c14] t (0, 0))) :
    (((((((((((((((W.setCell ⟨B, 0, none⟩ v0).setCell ⟨B, 1, none⟩ v1).setCell ⟨B, 2, none⟩ v2).setCell ⟨B, 3, none⟩ v3).setCell ⟨B, 4, none⟩ v4).setCell ⟨B, 5, none⟩ v5).setCell ⟨B, 6, none⟩ v6).setCell ⟨B, 7, none⟩ v7).setCell ⟨B, 8, none⟩ v8).setCell ⟨B, 9, none⟩ v9).setCell ⟨B, 10, none⟩ v10).setCell ⟨B, 11, none⟩ v11).setCell ⟨B, 12, none⟩ v12).setCell ⟨B, 13, none⟩ v13).setCell ⟨B, 14, none⟩ v14).heap[B]? = some (.cells #[v0, v1, v2, v3, v4, v5, v6, v7, v8, v9, v10, v11, v12, v13, v14] t (0, 0)) := by
  have h := heap_setCell_same _ B 14 _ _ v14 (heap_setCell_same _ B 13 _ _ v13 (heap_setCell_same _ B 12 _ _ v12 (heap_setCell_same _ B 11 _ _ v11 (heap_setCell_same _ B 10 _ _ v10 (heap_setCell_same _ B 9 _ _ v9 (heap_setCell_same _ B 8 _ _ v8 (heap_setCell_same _ B 7 _ _ v7 (heap_setCell_same _ B 6 _ _ v6 (heap_setCell_same _ B 5 _ _ v5 (heap_setCell_same _ B 4 _ _ v4 (heap_setCell_same _ B 3 _ _ v3 (heap_setCell_same _ B 2 _ _ v2 (heap_setCell_same _ B 1 _ _ v1 (heap_setCell_same _ B 0 _ _ v0 hb))))))))))))))
  simp only [List.setIfInBounds_toArray, List.set_cons_zero, List.set_cons_succ] at h
  exact h
theorem store13 (W : World) (B : Nat) (t : TypeId) (c0 c1 c2 c3 c4 c5 c6 c7 c8 c9 c10 c11 c12 v0 v1 v2 v3 v4 v5 v6 v7 v8 v9 v10 v11 v12 : Value) (hb : W.heap[B]? = some (.cells #[c0, c1, c2, c3, c4, c5, c6, c7, c8, c9, c10, c11, c12] t (0, 0))) :
    (((((((((((((W.setCell ⟨B, 0, none⟩ v0).setCell ⟨B, 1, none⟩ v1).setCell ⟨B, 2, none⟩ v2).setCell ⟨B, 3, none⟩ v3).setCell ⟨B, 4, none⟩ v4).setCell ⟨B, 5, none⟩ v5).setCell ⟨B, 6, none⟩ v6).setCell ⟨B, 7, none⟩ v7).setCell ⟨B, 8, none⟩ v8).setCell ⟨B, 9, none⟩ v9).setCell ⟨B, 10, none⟩ v10).setCell ⟨B, 11, none⟩ v11).setCell ⟨B, 12, none⟩ v12).heap[B]? = some (.cells #[v0, v1, v2, v3, v4, v5, v6, v7, v8, v9, v10, v11, v12] t (0, 0)) := by
  have h := heap_setCell_same _ B 12 _ _ v12 (heap_setCell_same _ B 11 _ _ v11 (heap_setCell_same _ B 10 _ _ v10 (heap_setCell_same _ B 9 _ _ v9 (heap_setCell_same _ B 8 _ _ v8 (heap_setCell_same _ B 7 _ _ v7 (heap_setCell_same _ B 6 _ _ v6 (heap_setCell_same _ B 5 _ _ v5 (heap_setCell_same _ B 4 _ _ v4 (heap_setCell_same _ B 3 _ _ v3 (heap_setCell_same _ B 2 _ _ v2 (heap_setCell_same _ B 1 _ _ v1 (heap_setCell_same _ B 0 _ _ v0 hb))))))))))))
  simp only [List.setIfInBounds_toArray, List.set_cons_zero, List.set_cons_succ] at h
  exact h
end Go.Proofs.YtflckkeaakmojaaDoor
