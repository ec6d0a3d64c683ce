/-
  append OF BYTES, AND THE OLD SLICE STAYS READABLE. Conditions: the row is the caller's own ('Own') and has a byte at least.
-/
import Derived.Test.YtadcpoglkmklhaaDoorSame
namespace Go.Proofs.YtadcpoglkmklhaaDoor
open Go.RowKit

theorem lie_prefix {w : World} {p : Option Addr} {xs ys : List Int} (h : Lie w p (xs ++ ys)) : Lie w p xs := by
  intro k hk
  obtain ⟨b, o, e, hc⟩ := h k (by rw [List.length_append]; omega)
  refine ⟨b, o, e, hc.trans ?_⟩
  rw [List.getD_eq_getElem?_getD, List.getD_eq_getElem?_getD, List.getElem?_append_left hk]
theorem run_app_keep (w0 w : World) (ty : TypeId) (v : Value) (xs ys : List Int) (hown : Own w0.heap.size w v xs) (hg : Gro none w0 w) (ad : Addr) (m c : Nat) (hl : ys.length = m) (hys : LieA w ad ys) (hlen : xs.length + m ≤ 100000) (h0 : 0 < xs.length) :
    ∃ v' w', (Builtin.append_ #[32, 32] ty #[v, .slice (some ad) m c]).run Tryd.prog w = .ok v' w' ∧ Own w0.heap.size w' v' (xs ++ ys) ∧ Gro none w0 w' ∧ (∀ p cap, v = .slice p xs.length cap → Lie w' p xs) ∧ (∀ B, B < w.heap.size → some B ≠ v.ownBlock → w'.heap[B]? = w.heap[B]?) := by
  obtain ⟨i0, hi, hz0, hz1, hz2⟩ := info_u8
  have hnews : ∀ j u, (ys.map (Value.int .u8))[j]? = some u → w.cell? (ad.add j) = some u := by
    intro j u hj
    have hjm : j < m := by
      rcases Nat.lt_or_ge j m with h | h
      · exact h
      · rw [List.getElem?_eq_none (by simp; omega)] at hj; cases hj
    rw [hys j (by omega), ← hj, List.getElem?_map, List.getElem?_eq_getElem (by omega)]
    simp [List.getD_eq_getElem?_getD, List.getElem?_eq_getElem (show j < ys.length by omega)]
  have h1 : ∀ u ∈ ys.map (Value.int .u8), u.oneCell' = true := by
    intro u hu
    simp at hu
    obtain ⟨n, _, rfl⟩ := hu
    rfl
  have hlm : (ys.map (Value.int .u8)).length = m * 1 := by simp [hl]
  obtain ⟨v', w', hr, h2, h3, _, hat⟩ := run_append_own_at (P := Tryd.prog) w w0.heap.size 32 ty 5 i0 (.int .u8 0) 1 1 Tryd.underlying32 hi hz0 hz1 hz2 rfl (by decide) v xs.length (xs.map (Value.int .u8)) hown ad m c (ys.map (Value.int .u8)) hlm hnews h1 (by unfold maxLen; omega) (by omega) hg.size
  have hO : Own w0.heap.size w' v' (xs ++ ys) := by unfold Own; simpa [hl] using h2
  have hG : Gro none w0 w' := by
    refine ⟨h3.os.trans hg.os, h3.output.trans hg.output, Nat.le_trans hg.size h3.size, fun k hk _ => ?_⟩
    refine (h3.block k (Nat.lt_of_lt_of_le hk hg.size) ?_).trans (hg.block k hk (by simp))
    intro e
    have := (hown.lt) k e.symm
    omega
  refine ⟨v', w', hr, hO, hG, ?_, fun B hB hne => h3.block B hB hne⟩
  rcases hown.2 with ⟨_, hz⟩ | ⟨g, cap, cur, rfl, hbg, hgb, hnc, hcm, hcs, htake⟩
  · omega
  intro p cap' e
  injection e with e1 e2 e3
  subst e1
  by_cases hroom : xs.length + m ≤ cap
  · have hr2 := run_append_room (P := Tryd.prog) w 32 ty 5 i0 Tryd.underlying32 hi g xs.length cap cur hgb ad m c (ys.map (Value.int .u8)) (by rw [hz1]; exact hlm) hnews h1 hroom (by rw [hz1, hlm, hcs]; omega)
    rw [hr] at hr2
    injection hr2 with ev ew
    obtain ⟨q, cap2, e5, _, hli, _⟩ := hO.lie
    rw [ev] at e5
    injection e5 with e6 _ _
    rw [← e6] at hli
    exact lie_prefix hli
  · obtain ⟨q, cap2, e5, _, hli, _⟩ := hown.lie
    injection e5 with e6 _ _
    have holds : ∀ j u, (xs.map (Value.int .u8))[j]? = some u → w.cell? ((⟨g, 0, none⟩ : Addr).add j) = some u := hown.cells (g := g) rfl
    have hr2 := run_append_grow (P := Tryd.prog) w 32 ty 5 i0 (.int .u8 0) Tryd.underlying32 hi hz0 ⟨g, 0, none⟩ xs.length cap (xs.map (Value.int .u8)) (by rw [hz1]; simp) holds ad m c (ys.map (Value.int .u8)) (by rw [hz1]; exact hlm) hnews (by omega) (by omega) (growslice_fits (by omega) (by rw [hz2]; omega))
    rw [hr] at hr2
    injection hr2 with ev ew
    rw [ew, e6]
    exact hli.gro (row := none) (((Gro.refl none w).drew).alloc _) (by simp)
/-- 'append(s, x...)' of bytes; the old slice stays. -/
theorem app_keep {ops : Array Oper} {rest : List Oper} {o : Oper} {a : Act} {w : World} {Q : Exit → Act → World → Prop} (hgd : o.guard = none) (s x : Operand)
    (ho : o.op = .call { callee := .builtin .append, args := #[s, x], argTypes := #[32, 32] })
    (w0 : World) (xs ys : List Int) (v : Value) (hs : a.eval s = v) (hown : Own w0.heap.size w v xs) (hg : Gro none w0 w)
    (ad : Addr) (m c : Nat) (hx : a.eval x = .slice (some ad) m c) (hl : ys.length = m) (hys : LieA w ad ys) (hlen : xs.length + m ≤ 100000) (h0 : 0 < xs.length)
    (h : ∀ v' w', Own w0.heap.size w' v' (xs ++ ys) → Gro none w0 w' → (∀ p cap, v = .slice p xs.length cap → Lie w' p xs) → (∀ B, B < w.heap.size → some B ≠ v.ownBlock → w'.heap[B]? = w.heap[B]?) → wpList Tryd.prog ops Q rest (a.put o.dst v') w') : wpList Tryd.prog ops Q (o :: rest) a w := by
  refine wpList_plain hgd fun K hK => ?_
  obtain ⟨v', w', hr, h2, h3, h4, h5⟩ := run_app_keep w0 w o.type v xs ys hown hg ad m c hl hys hlen h0
  unfold Oper.wp execOp
  simp only [ho, resolve, invoke, builtin, Sem.run_bind, Sem.run_pure, Result.andThen_ok, List.map_toArray, List.map_cons, List.map_nil, hs, hx, hr]
  exact hK _ _ (h v' w' h2 h3 h4 h5)
end Go.Proofs.YtadcpoglkmklhaaDoor
