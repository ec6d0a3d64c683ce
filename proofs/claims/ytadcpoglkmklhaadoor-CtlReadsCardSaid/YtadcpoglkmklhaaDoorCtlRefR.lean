/-
  THE DOCUMENT's READING OF CHAPTER 4: num, kind, six. Conditions: the bytes lie where the slice says ('Lie', 'LieA').
-/
import Derived.Test.YtadcpoglkmklhaaDoorCtlA
import Derived.Test.YtadcpoglkmklhaaDoorSame
namespace Go.Proofs.YtadcpoglkmklhaaDoor
open Go.RowKit

theorem rnum_at2 (b o n cap : Nat) (x y : Int) (w : World) (hn : 2 ≤ n) (hx : w.cell? ⟨b, o, none⟩ = some (.int .u8 x)) (hy : w.cell? ⟨b, o + 1, none⟩ = some (.int .u8 y)) (hx0 : 0 ≤ x ∧ x < 256) (hy0 : 0 ≤ y ∧ y < 256) :
    Calls Tryd.prog 43 #[.slice (some ⟨b, o, none⟩) n cap] w fun e w' => e = .returned (.int .i64 (x + 256 * y)) ∧ ∃ m, w.drewN m = w' := by
  have h0 : 0 < n := by omega
  have h1 : 1 < n := by omega
  have HO := Lib.hid (or_two x y hx0 hy0)
  obtain ⟨hx0, hx1⟩ := hx0
  obtain ⟨hy0, hy1⟩ := hy0
  go_enter Tryd.func43, Tryd.ntmps43
  go_wp2_with fail
  go_quiet (fail)
  all_goals (try go_wp2)
  all_goals go_ret
  all_goals exact ⟨ret_int HO.out, _, rfl⟩

theorem rkind_any (p : Option Addr) (cap : Nat) (bs : List Int) (kind : Int) (n : Nat) (w : World) (hn : n ≤ 1000) (h : Lie w p bs) (hk : 0 ≤ kind ∧ kind < 256) :
    Calls Tryd.prog 41 #[.slice p bs.length cap, .int .u8 kind, .int .i64 n] w fun e w' => e = .returned (.int .i64 (codeOf (longR bs kind n))) ∧ w = w' := by
  have hr : longR bs kind n = if 0 < bs.length ∧ bs.getD 0 0 ≠ kind then 5 else if bs.length < n then 1 else if n < bs.length then 2 else 0 := rfl
  by_cases h0 : 0 < bs.length
  · obtain ⟨b, o, rfl, hc⟩ := h 0 h0
    rw [Nat.add_zero] at hc
    by_cases hx : bs.getD 0 0 = kind
    · rw [if_neg (fun h => h.2 hx)] at hr
      rw [hx] at hc
      rcases (show bs.length < n ∨ n < bs.length ∨ bs.length = n from by omega) with h1 | h1 | h1
      · rw [if_pos h1] at hr
        rw [hr]
        generalize bs.length = m at *
        clear hr hx h
        simp only [show codeOf 5 = 105 from rfl, show codeOf 1 = 101 from rfl, show codeOf 2 = 102 from rfl, show codeOf 0 = 0 from rfl]
        go_enter Tryd.func41, Tryd.ntmps41
        go_wp2
        go_ret
        exact ⟨rfl, rfl⟩
      · rw [if_neg (by omega), if_pos h1] at hr
        rw [hr]
        generalize bs.length = m at *
        have h2 : ¬ m < n := by omega
        clear hr hx h
        simp only [show codeOf 5 = 105 from rfl, show codeOf 1 = 101 from rfl, show codeOf 2 = 102 from rfl, show codeOf 0 = 0 from rfl]
        go_enter Tryd.func41, Tryd.ntmps41
        go_wp2
        go_ret
        exact ⟨rfl, rfl⟩
      · rw [if_neg (by omega), if_neg (by omega)] at hr
        rw [hr]
        generalize bs.length = m at *
        subst h1
        clear hr hx h
        simp only [show codeOf 5 = 105 from rfl, show codeOf 1 = 101 from rfl, show codeOf 2 = 102 from rfl, show codeOf 0 = 0 from rfl]
        go_enter Tryd.func41, Tryd.ntmps41
        go_wp2
        go_ret
        exact ⟨rfl, rfl⟩
    · rw [if_pos ⟨h0, hx⟩] at hr
      rw [hr]
      have hx' : (bs.getD 0 0 == kind) = false := by simpa using hx
      generalize bs.getD 0 0 = x at *
      generalize bs.length = m at *
      clear hr hx h
      simp only [show codeOf 5 = 105 from rfl, show codeOf 1 = 101 from rfl, show codeOf 2 = 102 from rfl, show codeOf 0 = 0 from rfl]
      go_enter Tryd.func41, Tryd.ntmps41
      go_wp2
      go_ret
      exact ⟨rfl, rfl⟩
  · have hl : bs.length = 0 := by omega
    rw [hl] at hr ⊢
    rw [if_neg (by omega)] at hr
    by_cases h1 : 0 < n
    · rw [if_pos h1] at hr
      rw [hr]
      clear hr h h0
      simp only [show codeOf 5 = 105 from rfl, show codeOf 1 = 101 from rfl, show codeOf 2 = 102 from rfl, show codeOf 0 = 0 from rfl]
      go_enter Tryd.func41, Tryd.ntmps41
      go_wp2
      go_ret
      exact ⟨rfl, rfl⟩
    · obtain rfl : n = 0 := by omega
      rw [if_neg (by omega), if_neg (by omega)] at hr
      rw [hr]
      clear hr h h0
      simp only [show codeOf 5 = 105 from rfl, show codeOf 1 = 101 from rfl, show codeOf 2 = 102 from rfl, show codeOf 0 = 0 from rfl]
      go_enter Tryd.func41, Tryd.ntmps41
      go_wp2
      go_ret
      exact ⟨rfl, rfl⟩


/-- The first k of six, the others zero. -/
def mix (X : List Int) (k : Nat) : Array Value := ((X.take k ++ List.replicate (6 - k) 0).map (Value.int .u8)).toArray
theorem mix_set (x0 x1 x2 x3 x4 x5 : Int) (k : Nat) (hk : k < 6) : (mix [x0, x1, x2, x3, x4, x5] k).setIfInBounds k (.int .u8 ([x0, x1, x2, x3, x4, x5].getD k 0)) = mix [x0, x1, x2, x3, x4, x5] (k + 1) := by
  rcases (show k = 0 ∨ k = 1 ∨ k = 2 ∨ k = 3 ∨ k = 4 ∨ k = 5 from by omega) with rfl | rfl | rfl | rfl | rfl | rfl <;> rfl
theorem mix_at (x0 x1 x2 x3 x4 x5 : Int) (k : Nat) (hk : k < 6) : ∃ z, (mix [x0, x1, x2, x3, x4, x5] k)[k]? = some (.int .u8 z) := by
  rcases (show k = 0 ∨ k = 1 ∨ k = 2 ∨ k = 3 ∨ k = 4 ∨ k = 5 from by omega) with rfl | rfl | rfl | rfl | rfl | rfl <;> exact ⟨_, rfl⟩
theorem store6 (W : World) (B : Nat) (t : TypeId) (c0 c1 c2 c3 c4 c5 v0 v1 v2 v3 v4 v5 : Value) (hb : W.heap[B]? = some (.cells #[c0, c1, c2, c3, c4, c5] t (0, 0))) :
    ((((((W.setCell ⟨B, 0, none⟩ v0).setCell ⟨B, 1, none⟩ v1).setCell ⟨B, 2, none⟩ v2).setCell ⟨B, 3, none⟩ v3).setCell ⟨B, 4, none⟩ v4).setCell ⟨B, 5, none⟩ v5).heap[B]? = some (.cells #[v0, v1, v2, v3, v4, v5] t (0, 0)) := by
  have h := heap_setCell_same _ B 5 _ _ v5 (heap_setCell_same _ B 4 _ _ v4 (heap_setCell_same _ B 3 _ _ v3 (heap_setCell_same _ B 2 _ _ v2 (heap_setCell_same _ B 1 _ _ v1 (heap_setCell_same _ B 0 _ _ v0 hb)))))
  simp only [List.setIfInBounds_toArray, List.set_cons_zero, List.set_cons_succ] at h
  exact h
theorem rsix_any (b o n cap : Nat) (x : Ad) (w : World) (hn : 6 ≤ n) (hx : LieA w ⟨b, o, none⟩ (adL x)) :
    Calls Tryd.prog 42 #[.slice (some ⟨b, o, none⟩) n cap] w fun e w' => e = .returned (adV x) ∧ Gro none w w' := by
  obtain ⟨x0, x1, x2, x3, x4, x5⟩ := x
  have hbw : b < w.heap.size := block_lt_of_cell (lieA_cell hx 0 (by simp [adL]))
  have HX := Lib.hid hx
  clear hx
  unfold adV
  simp only
  go_enter Tryd.func42, Tryd.ntmps42
  go_wp2_with fail
  have hg1 : Gro none w ((w.alloc (.cells #[.int .u8 0, .int .u8 0, .int .u8 0, .int .u8 0, .int .u8 0, .int .u8 0] 23)).alloc (.cells #[.int .u8 0, .int .u8 0, .int .u8 0, .int .u8 0, .int .u8 0, .int .u8 0] 23)) := ((Gro.refl _ _).alloc _).alloc _
  have hz : ((w.alloc (.cells #[.int .u8 0, .int .u8 0, .int .u8 0, .int .u8 0, .int .u8 0, .int .u8 0] 23)).alloc (.cells #[.int .u8 0, .int .u8 0, .int .u8 0, .int .u8 0, .int .u8 0, .int .u8 0] 23)).heap[w.heap.size]? = some (.cells #[.int .u8 0, .int .u8 0, .int .u8 0, .int .u8 0, .int .u8 0, .int .u8 0] 23 (0, 0)) := (Below.heap_alloc _ _ _ (by simp)).trans (heap_alloc_new w _)
  have hr : ((w.alloc (.cells #[.int .u8 0, .int .u8 0, .int .u8 0, .int .u8 0, .int .u8 0, .int .u8 0] 23)).alloc (.cells #[.int .u8 0, .int .u8 0, .int .u8 0, .int .u8 0, .int .u8 0, .int .u8 0] 23)).heap[w.heap.size + 1]? = some (.cells (mix [x0, x1, x2, x3, x4, x5] 0) 23 (0, 0)) := by
    have h := heap_alloc_new (w.alloc (.cells #[.int .u8 0, .int .u8 0, .int .u8 0, .int .u8 0, .int .u8 0, .int .u8 0] 23)) (.cells #[.int .u8 0, .int .u8 0, .int .u8 0, .int .u8 0, .int .u8 0, .int .u8 0] 23)
    simp only [show ∀ (w : World) (o : Obj), (w.alloc o).heap.size = w.heap.size + 1 from fun w o => by simp] at h
    exact h
  generalize (w.alloc (.cells #[.int .u8 0, .int .u8 0, .int .u8 0, .int .u8 0, .int .u8 0, .int .u8 0] 23)).alloc (.cells #[.int .u8 0, .int .u8 0, .int .u8 0, .int .u8 0, .int .u8 0, .int .u8 0] 23) = w1 at *
  have HG := Lib.hid hg1
  have HZ := Lib.hid hz
  have HR := Lib.hid hr
  clear hg1 hz hr
  go_loopw [4] (fun i wr => ∃ k : Nat, k ≤ 6 ∧ i = .int .i64 k ∧ Gro (some (w.heap.size + 1)) w1 wr ∧ wr.heap[w.heap.size + 1]? = some (.cells (mix [x0, x1, x2, x3, x4, x5] k) 23 (0, 0))) (fun i _ => 6 - (intOf i).toNat)
  case atStart => exact ⟨0, by decide, rfl, Gro.refl _ _, HR.out⟩
  case round =>
    obtain ⟨k, hk, rfl, hg, hrow⟩ := hrel
    have HK := Lib.hid hg
    have HROW := Lib.hid hrow
    by_cases h6 : k < 6
    · obtain ⟨z, hz⟩ := mix_at x0 x1 x2 x3 x4 x5 k h6
      have hc := (cell_of_row wr (w.heap.size + 1) k _ _ _ hrow).trans hz
      have hf := frozen_of_row wr (w.heap.size + 1) k _ _ hrow
      have hy : wr.cell? ⟨b, o + k, none⟩ = some (.int .u8 ([x0, x1, x2, x3, x4, x5].getD k 0)) := (hg.cell (p := ⟨b, o + k, none⟩) (by have := HG.out.size; simp; omega) (by simp; omega)).trans ((HG.out.cell (p := ⟨b, o + k, none⟩) hbw (by simp)).trans (lieA_cell HX.out k h6))
      have HM := Lib.hid (mix_set x0 x1 x2 x3 x4 x5 k h6)
      generalize [x0, x1, x2, x3, x4, x5].getD k 0 = y at *
      have i0 : (0 : Int) ≤ (k : Int) := by omega
      have i1 : (k : Int) < 6 := by omega
      have i2 : (k : Int) < (n : Int) := by omega
      have i3 : k < n := by omega
      clear hz hg hrow
      go_wp2_with fail
      go_roundw
      case rel => exact ⟨k + 1, by omega, by go_num, HK.out.setCell _ _, by
        have h := heap_setCell_same wr (w.heap.size + 1) k _ _ (.int .u8 y) HROW.out
        rw [HM.out] at h
        exact h⟩
      case measure => simp [intOf]; omega
    · obtain rfl : k = 6 := by omega
      have hrow6 : wr.heap[w.heap.size + 1]? = some (.cells #[.int .u8 x0, .int .u8 x1, .int .u8 x2, .int .u8 x3, .int .u8 x4, .int .u8 x5] 23 (0, 0)) := hrow
      have hzr := (hg.block w.heap.size (blk_lt HZ.out) (by simp)).trans HZ.out
      have hf : ∀ j, wr.frozen? ⟨w.heap.size, j, none⟩ = false := fun j => frozen_of_row wr w.heap.size j _ _ hzr
      have c0 := cell_of_row wr (w.heap.size + 1) 0 _ _ _ hrow6
      have c1 := cell_of_row wr (w.heap.size + 1) 1 _ _ _ hrow6
      have c2 := cell_of_row wr (w.heap.size + 1) 2 _ _ _ hrow6
      have c3 := cell_of_row wr (w.heap.size + 1) 3 _ _ _ hrow6
      have c4 := cell_of_row wr (w.heap.size + 1) 4 _ _ _ hrow6
      have c5 := cell_of_row wr (w.heap.size + 1) 5 _ _ _ hrow6
      simp only [List.getElem?_toArray, List.getElem?_cons_zero, List.getElem?_cons_succ] at c0 c1 c2 c3 c4 c5
      have z0 := cell_of_row wr w.heap.size 0 _ _ _ hzr
      have z1 := cell_of_row wr w.heap.size 1 _ _ _ hzr
      have z2 := cell_of_row wr w.heap.size 2 _ _ _ hzr
      have z3 := cell_of_row wr w.heap.size 3 _ _ _ hzr
      have z4 := cell_of_row wr w.heap.size 4 _ _ _ hzr
      have z5 := cell_of_row wr w.heap.size 5 _ _ _ hzr
      simp only [List.getElem?_toArray, List.getElem?_cons_zero, List.getElem?_cons_succ] at z0 z1 z2 z3 z4 z5
      have HZR := Lib.hid hzr
      clear hrow hrow6 hzr hg
      go_wp2_with fail
      refine gen_world (fun W' => Gro (some w.heap.size) wr W' ∧ W'.heap[w.heap.size]? = some (.cells #[.int .u8 x0, .int .u8 x1, .int .u8 x2, .int .u8 x3, .int .u8 x4, .int .u8 x5] 23 (0, 0))) ⟨?_, ?_⟩ ?_
      · repeat (first | with_reducible exact Gro.refl _ _ | with_reducible refine Gro.setCell ?_ _ _)
      · with_reducible refine store6 _ _ _ (.int .u8 0) (.int .u8 0) (.int .u8 0) (.int .u8 0) (.int .u8 0) (.int .u8 0)  _ _ _ _ _ _ HZR.out
      clear c0 c1 c2 c3 c4 c5 z0 z1 z2 z3 z4 z5 hf
      rintro w6 ⟨hg6, hz6⟩
      have d0 := cell_of_row w6 w.heap.size 0 _ _ _ hz6
      have d1 := cell_of_row w6 w.heap.size 1 _ _ _ hz6
      have d2 := cell_of_row w6 w.heap.size 2 _ _ _ hz6
      have d3 := cell_of_row w6 w.heap.size 3 _ _ _ hz6
      have d4 := cell_of_row w6 w.heap.size 4 _ _ _ hz6
      have d5 := cell_of_row w6 w.heap.size 5 _ _ _ hz6
      simp only [List.getElem?_toArray, List.getElem?_cons_zero, List.getElem?_cons_succ] at d0 d1 d2 d3 d4 d5
      have HG6 := Lib.hid hg6
      clear hg6 hz6
      (try go_wp2_with fail)
      (try simp only [Exit.inBlock, Exit.then])
      refine bodyPost_ret (by simp [results, Tryd.results42, go_sem, d0, d1, d2, d3, d4, d5]; try rfl) rfl ?_
      refine ⟨rfl, ?_⟩
      have h1 := HG.out
      have h2 := HK.out
      have h3 := HG6.out
      refine ⟨h3.os.trans (h2.os.trans h1.os), h3.output.trans (h2.output.trans h1.output), Nat.le_trans h1.size (Nat.le_trans h2.size h3.size), fun k hk _ => ?_⟩
      exact (h3.block k (Nat.lt_of_lt_of_le hk (Nat.le_trans h1.size h2.size)) (by simp; omega)).trans ((h2.block k (Nat.lt_of_lt_of_le hk h1.size) (by simp; omega)).trans (h1.block k hk (by simp)))
theorem refKind_nil (p : Option Addr) (cap : Nat) (w : World) : Calls Tryd.prog 28 #[.slice p 0 cap] w fun e w' => e = .returned (.int .i64 0) ∧ w = w' := by
  go_enter Tryd.func28, Tryd.ntmps28
  go_wp2
  go_ret
  exact ⟨rfl, rfl⟩
theorem refKind_hit (b o n cap : Nat) (x : Int) (w : World) (hn : 0 < n) (hx : w.cell? ⟨b, o, none⟩ = some (.int .u8 x)) (h : known x) :
    Calls Tryd.prog 28 #[.slice (some ⟨b, o, none⟩) n cap] w fun e w' => e = .returned (.int .i64 x) ∧ w = w' := by
  have h0 : ¬ n = 0 := by omega
  unfold known at h
  rcases h with rfl | rfl | rfl | rfl | rfl
  all_goals
    go_enter Tryd.func28, Tryd.ntmps28
    go_wp2
    go_ret
    exact ⟨rfl, rfl⟩
theorem refKind_miss (b o n cap : Nat) (x : Int) (w : World) (hn : 0 < n) (hx : w.cell? ⟨b, o, none⟩ = some (.int .u8 x)) (h : ¬ known x) :
    Calls Tryd.prog 28 #[.slice (some ⟨b, o, none⟩) n cap] w fun e w' => e = .returned (.int .i64 0) ∧ w = w' := by
  have h0 : ¬ n = 0 := by omega
  unfold known at h
  have h1 : (x == 132) = false := by simp; omega
  have h2 : (x == 148) = false := by simp; omega
  have h3 : (x == 164) = false := by simp; omega
  have h4 : (x == 136) = false := by simp; omega
  have h5 : (x == 208) = false := by simp; omega
  clear h
  go_enter Tryd.func28, Tryd.ntmps28
  go_wp2
  go_ret
  exact ⟨rfl, rfl⟩
theorem refKind_any (p : Option Addr) (cap : Nat) (bs : List Int) (w : World) (h : Lie w p bs) :
    Calls Tryd.prog 28 #[.slice p bs.length cap] w fun e w' => e = .returned (.int .i64 (kindOf bs)) ∧ w = w' := by
  by_cases h0 : 0 < bs.length
  · obtain ⟨b, o, rfl, hc⟩ := h 0 h0
    by_cases hk : known (bs.getD 0 0)
    · have : kindOf bs = bs.getD 0 0 := by unfold kindOf; exact if_pos ⟨h0, hk⟩
      rw [this]
      exact refKind_hit b o _ cap _ w h0 (by simpa using hc) hk
    · have : kindOf bs = 0 := by unfold kindOf; exact if_neg (fun h => hk h.2)
      rw [this]
      exact refKind_miss b o _ cap _ w h0 (by simpa using hc) hk
  · have hl : bs.length = 0 := by omega
    have : kindOf bs = 0 := by unfold kindOf; exact if_neg (fun h => h0 h.1)
    rw [this, hl]
    exact refKind_nil p cap w

end Go.Proofs.YtadcpoglkmklhaaDoor
