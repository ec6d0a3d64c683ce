/-
  THE DOCUMENT's READING OF CHAPTER 5: num, six, session, ReadAdd, ReadDel, out of any bytes. Conditions: the bytes lie where the slice says ('Lie', 'LieA').
-/
import Derived.Test.YtflckkeaakmojaaDoorActRef
import Derived.Test.YtflckkeaakmojaaDoorActForm
import Derived.Deep.Cut
namespace Go.Proofs.YtflckkeaakmojaaDoor
open Go.RowKit

theorem rnum_at2 (b o n cap : Nat) (x y : Int) (w : World) (hn : 2 ≤ n) (hx : w.cell? ⟨b, o, none⟩ = some (.int .u8 x)) (hy : w.cell? ⟨b, o + 1, none⟩ = some (.int .u8 y)) (hx0 : 0 ≤ x ∧ x < 256) (hy0 : 0 ≤ y ∧ y < 256) :
    Calls Tryd.prog 37 #[.slice (some ⟨b, o, none⟩) n cap] w fun e w' => e = .returned (.int .i64 (x + 256 * y)) ∧ ∃ m, w.drewN m = w' := by
  have h0 : 0 < n := by omega
  have h1 : 1 < n := by omega
  have HO := Lib.hid (or_two x y hx0 hy0)
  obtain ⟨hx0, hx1⟩ := hx0
  obtain ⟨hy0, hy1⟩ := hy0
  go_enter Tryd.func37, Tryd.ntmps37
  go_wp2_with fail
  go_quiet (fail)
  all_goals (try go_wp2)
  all_goals go_ret
  all_goals exact ⟨ret_int HO.out, _, rfl⟩

def mix (X : List Int) (k : Nat) : Array Value := ((X.take k ++ List.replicate (6 - k) 0).map (Value.int .u8)).toArray
theorem mix_set (x0 x1 x2 x3 x4 x5 : Int) (k : Nat) (hk : k < 6) : (mix [x0, x1, x2, x3, x4, x5] k).setIfInBounds k (.int .u8 ([x0, x1, x2, x3, x4, x5].getD k 0)) = mix [x0, x1, x2, x3, x4, x5] (k + 1) := by
  rcases (show k = 0 ∨ k = 1 ∨ k = 2 ∨ k = 3 ∨ k = 4 ∨ k = 5 from by omega) with rfl | rfl | rfl | rfl | rfl | rfl <;> rfl
theorem mix_at (x0 x1 x2 x3 x4 x5 : Int) (k : Nat) (hk : k < 6) : ∃ z, (mix [x0, x1, x2, x3, x4, x5] k)[k]? = some (.int .u8 z) := by
  rcases (show k = 0 ∨ k = 1 ∨ k = 2 ∨ k = 3 ∨ k = 4 ∨ k = 5 from by omega) with rfl | rfl | rfl | rfl | rfl | rfl <;> exact ⟨_, rfl⟩
theorem store6 (W : World) (B : Nat) (t : TypeId) (c0 c1 c2 c3 c4 c5 v0 v1 v2 v3 v4 v5 : Value) (hb : W.heap[B]? = some (.cells #[c0, c1, c2, c3, c4, c5] t (0, 0))) :
    ((((((W.setCell ⟨B, 0, none⟩ v0).setCell ⟨B, 1, none⟩ v1).setCell ⟨B, 2, none⟩ v2).setCell ⟨B, 3, none⟩ v3).setCell ⟨B, 4, none⟩ v4).setCell ⟨B, 5, none⟩ v5).heap[B]? = some (.cells #[v0, v1, v2, v3, v4, v5] t (0, 0)) := by
  have h := heap_setCell_same _ B 5 _ _ v5 (heap_setCell_same _ B 4 _ _ v4 (heap_setCell_same _ B 3 _ _ v3 (heap_setCell_same _ B 2 _ _ v2 (heap_setCell_same _ B 1 _ _ v1 (heap_setCell_same _ B 0 _ _ v0 hb)))))
  simp only [List.setIfInBounds_toArray, List.set_cons_zero, List.set_cons_succ] at h
  exact h
theorem rsix_any (b o n cap : Nat) (x : Ad) (w : World) (hn : 6 ≤ n) (hx : LieA w ⟨b, o, none⟩ (adL x)) :
    Calls Tryd.prog 36 #[.slice (some ⟨b, o, none⟩) n cap] w fun e w' => e = .returned (adV x) ∧ Gro none w w' := by
  obtain ⟨x0, x1, x2, x3, x4, x5⟩ := x
  have hbw : b < w.heap.size := block_lt_of_cell (lieA_cell hx 0 (by simp [adL]))
  have HX := Lib.hid hx
  clear hx
  unfold adV
  simp only
  go_enter Tryd.func36, Tryd.ntmps36
  go_wp2_with fail
  have hg1 : Gro none w ((w.alloc (.cells #[.int .u8 0, .int .u8 0, .int .u8 0, .int .u8 0, .int .u8 0, .int .u8 0] 25)).alloc (.cells #[.int .u8 0, .int .u8 0, .int .u8 0, .int .u8 0, .int .u8 0, .int .u8 0] 25)) := ((Gro.refl _ _).alloc _).alloc _
  have hz : ((w.alloc (.cells #[.int .u8 0, .int .u8 0, .int .u8 0, .int .u8 0, .int .u8 0, .int .u8 0] 25)).alloc (.cells #[.int .u8 0, .int .u8 0, .int .u8 0, .int .u8 0, .int .u8 0, .int .u8 0] 25)).heap[w.heap.size]? = some (.cells #[.int .u8 0, .int .u8 0, .int .u8 0, .int .u8 0, .int .u8 0, .int .u8 0] 25 (0, 0)) := (Below.heap_alloc _ _ _ (by simp)).trans (heap_alloc_new w _)
  have hr : ((w.alloc (.cells #[.int .u8 0, .int .u8 0, .int .u8 0, .int .u8 0, .int .u8 0, .int .u8 0] 25)).alloc (.cells #[.int .u8 0, .int .u8 0, .int .u8 0, .int .u8 0, .int .u8 0, .int .u8 0] 25)).heap[w.heap.size + 1]? = some (.cells (mix [x0, x1, x2, x3, x4, x5] 0) 25 (0, 0)) := by
    have h := heap_alloc_new (w.alloc (.cells #[.int .u8 0, .int .u8 0, .int .u8 0, .int .u8 0, .int .u8 0, .int .u8 0] 25)) (.cells #[.int .u8 0, .int .u8 0, .int .u8 0, .int .u8 0, .int .u8 0, .int .u8 0] 25)
    simp only [show ∀ (w : World) (o : Obj), (w.alloc o).heap.size = w.heap.size + 1 from fun w o => by simp] at h
    exact h
  generalize (w.alloc (.cells #[.int .u8 0, .int .u8 0, .int .u8 0, .int .u8 0, .int .u8 0, .int .u8 0] 25)).alloc (.cells #[.int .u8 0, .int .u8 0, .int .u8 0, .int .u8 0, .int .u8 0, .int .u8 0] 25) = w1 at *
  have HG := Lib.hid hg1
  have HZ := Lib.hid hz
  have HR := Lib.hid hr
  clear hg1 hz hr
  go_loopw [4] (fun i wr => ∃ k : Nat, k ≤ 6 ∧ i = .int .i64 k ∧ Gro (some (w.heap.size + 1)) w1 wr ∧ wr.heap[w.heap.size + 1]? = some (.cells (mix [x0, x1, x2, x3, x4, x5] k) 25 (0, 0))) (fun i _ => 6 - (intOf i).toNat)
  case atStart => exact ⟨0, by decide, rfl, Gro.refl _ _, HR.out⟩
  case round =>
    obtain ⟨k, hk, rfl, hg, hrow⟩ := hrel
    have HK := Lib.hid hg
    have HROW := Lib.hid hrow
    by_cases h6 : k < 6
    · obtain ⟨z, hz⟩ := mix_at x0 x1 x2 x3 x4 x5 k h6
      have hc := (cell_of_row wr (w.heap.size + 1) k _ _ _ hrow).trans hz
      have hf := frozen_of_row wr (w.heap.size + 1) k _ _ hrow
      have hy : wr.cell? ⟨b, o + k, none⟩ = some (.int .u8 ([x0, x1, x2, x3, x4, x5].getD k 0)) := (hg.cell (p := ⟨b, o + k, none⟩) (by have := HG.out.size; simp; omega) (by simp; omega)).trans ((HG.out.cell (p := ⟨b, o + k, none⟩) hbw (by simp)).trans (lieA_cell HX.out k h6))
      have HM := Lib.hid (mix_set x0 x1 x2 x3 x4 x5 k h6)
      generalize [x0, x1, x2, x3, x4, x5].getD k 0 = y at *
      have i0 : (0 : Int) ≤ (k : Int) := by omega
      have i1 : (k : Int) < 6 := by omega
      have i2 : (k : Int) < (n : Int) := by omega
      have i3 : k < n := by omega
      clear hz hg hrow
      go_wp2_with fail
      go_roundw
      case rel => exact ⟨k + 1, by omega, by go_num, HK.out.setCell _ _, by
        have h := heap_setCell_same wr (w.heap.size + 1) k _ _ (.int .u8 y) HROW.out
        rw [HM.out] at h
        exact h⟩
      case measure => simp [intOf]; omega
    · obtain rfl : k = 6 := by omega
      have hrow6 : wr.heap[w.heap.size + 1]? = some (.cells #[.int .u8 x0, .int .u8 x1, .int .u8 x2, .int .u8 x3, .int .u8 x4, .int .u8 x5] 25 (0, 0)) := hrow
      have hzr := (hg.block w.heap.size (blk_lt HZ.out) (by simp)).trans HZ.out
      have hf : ∀ j, wr.frozen? ⟨w.heap.size, j, none⟩ = false := fun j => frozen_of_row wr w.heap.size j _ _ hzr
      have c0 := cell_of_row wr (w.heap.size + 1) 0 _ _ _ hrow6
      have c1 := cell_of_row wr (w.heap.size + 1) 1 _ _ _ hrow6
      have c2 := cell_of_row wr (w.heap.size + 1) 2 _ _ _ hrow6
      have c3 := cell_of_row wr (w.heap.size + 1) 3 _ _ _ hrow6
      have c4 := cell_of_row wr (w.heap.size + 1) 4 _ _ _ hrow6
      have c5 := cell_of_row wr (w.heap.size + 1) 5 _ _ _ hrow6
      simp only [List.getElem?_toArray, List.getElem?_cons_zero, List.getElem?_cons_succ] at c0 c1 c2 c3 c4 c5
      have z0 := cell_of_row wr w.heap.size 0 _ _ _ hzr
      have z1 := cell_of_row wr w.heap.size 1 _ _ _ hzr
      have z2 := cell_of_row wr w.heap.size 2 _ _ _ hzr
      have z3 := cell_of_row wr w.heap.size 3 _ _ _ hzr
      have z4 := cell_of_row wr w.heap.size 4 _ _ _ hzr
      have z5 := cell_of_row wr w.heap.size 5 _ _ _ hzr
      simp only [List.getElem?_toArray, List.getElem?_cons_zero, List.getElem?_cons_succ] at z0 z1 z2 z3 z4 z5
      have HZR := Lib.hid hzr
      clear hrow hrow6 hzr hg
      go_wp2_with fail
      refine gen_world (fun W' => Gro (some w.heap.size) wr W' ∧ W'.heap[w.heap.size]? = some (.cells #[.int .u8 x0, .int .u8 x1, .int .u8 x2, .int .u8 x3, .int .u8 x4, .int .u8 x5] 25 (0, 0))) ⟨?_, ?_⟩ ?_
      · repeat (first | with_reducible exact Gro.refl _ _ | with_reducible refine Gro.setCell ?_ _ _)
      · with_reducible refine store6 _ _ _ (.int .u8 0) (.int .u8 0) (.int .u8 0) (.int .u8 0) (.int .u8 0) (.int .u8 0)  _ _ _ _ _ _ HZR.out
      clear c0 c1 c2 c3 c4 c5 z0 z1 z2 z3 z4 z5 hf
      rintro w6 ⟨hg6, hz6⟩
      have d0 := cell_of_row w6 w.heap.size 0 _ _ _ hz6
      have d1 := cell_of_row w6 w.heap.size 1 _ _ _ hz6
      have d2 := cell_of_row w6 w.heap.size 2 _ _ _ hz6
      have d3 := cell_of_row w6 w.heap.size 3 _ _ _ hz6
      have d4 := cell_of_row w6 w.heap.size 4 _ _ _ hz6
      have d5 := cell_of_row w6 w.heap.size 5 _ _ _ hz6
      simp only [List.getElem?_toArray, List.getElem?_cons_zero, List.getElem?_cons_succ] at d0 d1 d2 d3 d4 d5
      have HG6 := Lib.hid hg6
      clear hg6 hz6
      (try go_wp2_with fail)
      (try simp only [Exit.inBlock, Exit.then])
      refine bodyPost_ret (by simp [results, Tryd.results36, go_sem, d0, d1, d2, d3, d4, d5]; try rfl) rfl ?_
      refine ⟨rfl, ?_⟩
      have h1 := HG.out
      have h2 := HK.out
      have h3 := HG6.out
      refine ⟨h3.os.trans (h2.os.trans h1.os), h3.output.trans (h2.output.trans h1.output), Nat.le_trans h1.size (Nat.le_trans h2.size h3.size), fun k hk _ => ?_⟩
      exact (h3.block k (Nat.lt_of_lt_of_le hk (Nat.le_trans h1.size h2.size)) (by simp; omega)).trans ((h2.block k (Nat.lt_of_lt_of_le hk h1.size) (by simp; omega)).trans (h1.block k hk (by simp)))

theorem session_any (p : Option Addr) (cap : Nat) (bs : List Int) (lo hi : Int) (n : Nat) (K : Prop) [Decidable K] (hK : K ↔ bs.getD 0 0 = 208 ∧ bs.getD 24 0 = 3 ∧ lo ≤ bs.getD 25 0 ∧ bs.getD 25 0 ≤ hi) (hn : n ≤ 1000) (hlen : bs.length ≤ 100000) (w : World) (h : Lie w p bs) :
    Calls Tryd.prog 35 #[.slice p bs.length cap, .int .u8 lo, .int .u8 hi, .int .i64 (n : Int)] w fun e w' => e = .returned (.int .i64 (codeOf (longA bs n K))) ∧ Gro none w w' := by
  have HL := Lib.hid (show longA bs n K = if bs.length < 26 then 1 else if ¬ K then 5 else if bs.length < n then 1 else if n < bs.length then 2 else 0 from rfl)
  have HH := Lib.hid h
  clear h
  generalize hm : bs.length = m at *
  by_cases l26 : m < 26
  · have i0 : (m : Int) < 26 := by omega
    have e : longA bs n K = 1 := by rw [HL.out, if_pos l26]
    rw [e]
    clear e HL HH
    go_enter Tryd.func35, Tryd.ntmps35
    go_wp2_with fail
    go_ret
    exact ⟨rfl, Gro.refl _ _⟩
  · have i0 : ¬ (m : Int) < 26 := by omega
    have j0 : (0 : Int) < (m : Int) := by omega
    have j24 : (24 : Int) < (m : Int) := by omega
    have j25 : (25 : Int) < (m : Int) := by omega
    obtain ⟨b, o, rfl, c0⟩ := HH.out 0 (by omega)
    obtain ⟨b', o', e1, c24⟩ := HH.out 24 (by omega)
    obtain ⟨b2, o2, e2, c25⟩ := HH.out 25 (by omega)
    cases e1
    cases e2
    rw [Nat.add_zero] at c0
    have HD := Lib.hid (show longA bs n K = if ¬ K then 5 else if m < n then 1 else if n < m then 2 else 0 by rw [HL.out, if_neg l26])
    clear HL HH
    generalize bs.getD 0 0 = v0 at *
    generalize bs.getD 24 0 = v24 at *
    generalize bs.getD 25 0 = v25 at *
    by_cases hk : K
    · obtain ⟨h1, h2, h3, h4⟩ := hK.1 hk
      have e : longA bs n K = if m < n then 1 else if n < m then 2 else 0 := by rw [HD.out, if_neg (not_not_intro hk)]
      clear HD hK hk
      subst h1
      subst h2
      have n3 : ¬ v25 < lo := by omega
      have n4 : ¬ hi < v25 := by omega
      by_cases h5 : m < n
      · rw [if_pos h5] at e
        rw [e]
        have i5 : (m : Int) < (n : Int) := by omega
        clear e
        go_enter Tryd.func35, Tryd.ntmps35
        go_wp2_with fail
        go_ret
        exact ⟨rfl, Gro.refl _ _⟩
      · rw [if_neg h5] at e
        have i5 : ¬ (m : Int) < (n : Int) := by omega
        by_cases h6 : n < m
        · rw [if_pos h6] at e
          rw [e]
          have i6 : (n : Int) < (m : Int) := by omega
          clear e
          go_enter Tryd.func35, Tryd.ntmps35
          go_wp2_with fail
          go_ret
          exact ⟨rfl, Gro.refl _ _⟩
        · rw [if_neg h6] at e
          rw [e]
          have i6 : ¬ (n : Int) < (m : Int) := by omega
          clear e
          go_enter Tryd.func35, Tryd.ntmps35
          go_wp2_with fail
          go_ret
          exact ⟨rfl, Gro.refl _ _⟩
    · have e : longA bs n K = 5 := by rw [HD.out, if_pos hk]
      rw [e]
      have hno : ¬ (v0 = 208 ∧ v24 = 3 ∧ lo ≤ v25 ∧ v25 ≤ hi) := fun h => hk (hK.2 h)
      clear e HD hK hk
      by_cases h1 : v0 = 208
      · subst h1
        by_cases h2 : v24 = 3
        · subst h2
          by_cases h3 : v25 < lo
          · clear hno
            go_enter Tryd.func35, Tryd.ntmps35
            go_wp2_with fail
            go_ret
            exact ⟨rfl, Gro.refl _ _⟩
          · have h4 : hi < v25 := by
              rcases Int.lt_or_le hi v25 with h | h
              · exact h
              · exact absurd ⟨rfl, rfl, by omega, h⟩ hno
            clear hno
            go_enter Tryd.func35, Tryd.ntmps35
            go_wp2_with fail
            go_ret
            exact ⟨rfl, Gro.refl _ _⟩
        · have h2' : (v24 == 3) = false := by simpa using h2
          clear hno
          go_enter Tryd.func35, Tryd.ntmps35
          go_wp2_with fail
          go_ret
          exact ⟨rfl, Gro.refl _ _⟩
      · have h1' : (v0 == 208) = false := by simpa using h1
        clear hno
        go_enter Tryd.func35, Tryd.ntmps35
        go_wp2_with fail
        go_ret
        exact ⟨rfl, Gro.refl _ _⟩
theorem res_radd {tmps : Array Value} {w : World} {F : Array Value} {u : Value} {g : Nat} (h2 : tmps.getD 2 undef = .pointer (some ⟨g, 0, none⟩)) (h3 : tmps.getD 3 undef = u) (hb : w.heap[g]? = some (.cells F 27 (0, 0))) (hi : (Tryd.prog.info? 27).map (·.size) = some F.size) :
    (results Tryd.f17 tmps).run Tryd.prog w = .ok (.tuple #[.agg F, u]) w := by
  have hl : (loadVar 27 ⟨g, 0, none⟩).run Tryd.prog w = .ok (.agg F) w := by
    have h := run_loadVar_list (P := Tryd.prog) w ⟨g, 0, none⟩ 27 F.toList _ (fun j v hv => by
      rw [Addr.add_mid, Nat.zero_add, cell_of_row w g j F _ (0, 0) hb]
      simpa using hv) Tryd.underlying27 rfl (by simpa using hi)
    simpa using h
  unfold results
  rw [Tryd.results17]
  rw [Array.getD_eq_getD_getElem?] at h2 h3
  simp [h2, h3, hl, asAddr]
theorem res_rdel {tmps : Array Value} {w : World} {F : Array Value} {u : Value} {g : Nat} (h2 : tmps.getD 2 undef = .pointer (some ⟨g, 0, none⟩)) (h3 : tmps.getD 3 undef = u) (hb : w.heap[g]? = some (.cells F 36 (0, 0))) (hi : (Tryd.prog.info? 36).map (·.size) = some F.size) :
    (results Tryd.f18 tmps).run Tryd.prog w = .ok (.tuple #[.agg F, u]) w := by
  have hl : (loadVar 36 ⟨g, 0, none⟩).run Tryd.prog w = .ok (.agg F) w := by
    have h := run_loadVar_list (P := Tryd.prog) w ⟨g, 0, none⟩ 36 F.toList _ (fun j v hv => by
      rw [Addr.add_mid, Nat.zero_add, cell_of_row w g j F _ (0, 0) hb]
      simpa using hv) Tryd.underlying36 rfl (by simpa using hi)
    simpa using h
  unfold results
  rw [Tryd.results18]
  rw [Array.getD_eq_getD_getElem?] at h2 h3
  simp [h2, h3, hl, asAddr]

theorem ses_radd (p : Option Addr) (cap : Nat) (bs : List Int) (hlen : bs.length ≤ 100000) (w : World) (h : Lie w p bs) :
    Calls Tryd.prog 35 #[.slice p bs.length cap, .int .u8 0, .int .u8 1, .int .i64 33] w fun e w' => e = .returned (.int .i64 (codeOf (longA bs 33 (kAdd bs)))) ∧ Gro none w w' :=
  session_any p cap bs 0 1 33 (kAdd bs) (show kAdd bs ↔ _ from ⟨fun h => ⟨h.1, h.2.1, by rcases h.2.2 with h | h <;> omega, by rcases h.2.2 with h | h <;> omega⟩, fun h => ⟨h.1, h.2.1, by have := h.2.2; omega⟩⟩) (by decide) hlen w h
set_option maxHeartbeats 4000000 in
set_option maxRecDepth 100000 in
theorem raddR_bad (p : Option Addr) (cap : Nat) (bs : List Int) (hlen : bs.length ≤ 100000) (w : World) (h : Lie w p bs) (hr : longA bs 33 (kAdd bs) ≠ 0) :
    Calls Tryd.prog 17 #[.slice p bs.length cap] w fun e w' => e = .returned (.tuple #[addV adZ adZ adZ false 0 0 0 0 0 0, .int .i64 (codeOf (longA bs 33 (kAdd bs)))]) ∧ Gro none w w' := by
  have HL := Lib.hid (fun w' (k : Gro none w w') => ses_radd p cap bs hlen w' (h.gro k (by simp)))
  have hc : (codeOf (longA bs 33 (kAdd bs)) == 0) = false := by
    generalize longA bs 33 (kAdd bs) = q at hr
    cases q with
    | zero => exact absurd rfl hr
    | succ r => simp [codeOf]; omega
  generalize codeOf (longA bs 33 (kAdd bs)) = cc at *
  generalize bs.length = m at *
  clear hr h hlen
  unfold addV adZ
  simp only
  go_enter Tryd.func17, Tryd.ntmps17
  go_wp2_with fail
  have hg1 : Gro none w (w.alloc (.cells #[.int .u8 0, .int .u8 0, .int .u8 0, .int .u8 0, .int .u8 0, .int .u8 0, .int .u8 0, .int .u8 0, .int .u8 0, .int .u8 0, .int .u8 0, .int .u8 0, .int .u8 0, .int .u8 0, .int .u8 0, .int .u8 0, .int .u8 0, .int .u8 0, .bool false, .int .i64 0, .int .i64 0, .int .i64 0, .int .i64 0, .int .i64 0, .int .i64 0] 27)) := (Gro.refl _ _).alloc _
  have hz := heap_alloc_new w (.cells #[.int .u8 0, .int .u8 0, .int .u8 0, .int .u8 0, .int .u8 0, .int .u8 0, .int .u8 0, .int .u8 0, .int .u8 0, .int .u8 0, .int .u8 0, .int .u8 0, .int .u8 0, .int .u8 0, .int .u8 0, .int .u8 0, .int .u8 0, .int .u8 0, .bool false, .int .i64 0, .int .i64 0, .int .i64 0, .int .i64 0, .int .i64 0, .int .i64 0] 27)
  generalize w.alloc (.cells #[.int .u8 0, .int .u8 0, .int .u8 0, .int .u8 0, .int .u8 0, .int .u8 0, .int .u8 0, .int .u8 0, .int .u8 0, .int .u8 0, .int .u8 0, .int .u8 0, .int .u8 0, .int .u8 0, .int .u8 0, .int .u8 0, .int .u8 0, .int .u8 0, .bool false, .int .i64 0, .int .i64 0, .int .i64 0, .int .i64 0, .int .i64 0, .int .i64 0] 27) = w1 at *
  refine (HL.out w1 hg1).mono ?_
  rintro e w2 ⟨rfl, hg⟩
  have HG1 := Lib.hid (hg1.trans hg)
  have hz2 := (hg.block _ (blk_in hz) (by simp)).trans hz
  clear hg1 hz HL hg
  go_wp2_with (refine store_row rfl 27 _ _ rfl w.heap.size rfl #[.int .u8 0, .int .u8 0, .int .u8 0, .int .u8 0, .int .u8 0, .int .u8 0, .int .u8 0, .int .u8 0, .int .u8 0, .int .u8 0, .int .u8 0, .int .u8 0, .int .u8 0, .int .u8 0, .int .u8 0, .int .u8 0, .int .u8 0, .int .u8 0, .bool false, .int .i64 0, .int .i64 0, .int .i64 0, .int .i64 0, .int .i64 0, .int .i64 0] (by rfl) #[.int .u8 0, .int .u8 0, .int .u8 0, .int .u8 0, .int .u8 0, .int .u8 0, .int .u8 0, .int .u8 0, .int .u8 0, .int .u8 0, .int .u8 0, .int .u8 0, .int .u8 0, .int .u8 0, .int .u8 0, .int .u8 0, .int .u8 0, .int .u8 0, .bool false, .int .i64 0, .int .i64 0, .int .i64 0, .int .i64 0, .int .i64 0, .int .i64 0] 27 hz2 rfl (by kernel_rfl) (by simp [Value.oneCell']) ?_)
  intro w6 hg6 hr6
  have HF := Lib.hid (HG1.out.new_row hg6 (Nat.le_refl _))
  have HR6 := Lib.hid hr6
  clear hg6 hr6 hz2
  (try go_wp2_with fail)
  (try simp only [Exit.inBlock, Exit.then])
  refine bodyPost_ret (res_radd rfl rfl HR6.out (by kernel_rfl)) rfl ?_
  exact ⟨rfl, HF.out⟩

theorem ses_rdel (p : Option Addr) (cap : Nat) (bs : List Int) (hlen : bs.length ≤ 100000) (w : World) (h : Lie w p bs) :
    Calls Tryd.prog 35 #[.slice p bs.length cap, .int .u8 2, .int .u8 2, .int .i64 30] w fun e w' => e = .returned (.int .i64 (codeOf (longA bs 30 (kDel bs)))) ∧ Gro none w w' :=
  session_any p cap bs 2 2 30 (kDel bs) (show kDel bs ↔ _ from ⟨fun h => ⟨h.1, h.2.1, by have := h.2.2; omega, by have := h.2.2; omega⟩, fun h => ⟨h.1, h.2.1, by have := h.2.2; omega⟩⟩) (by decide) hlen w h
set_option maxHeartbeats 4000000 in
set_option maxRecDepth 100000 in
theorem rdelR_bad (p : Option Addr) (cap : Nat) (bs : List Int) (hlen : bs.length ≤ 100000) (w : World) (h : Lie w p bs) (hr : longA bs 30 (kDel bs) ≠ 0) :
    Calls Tryd.prog 18 #[.slice p bs.length cap] w fun e w' => e = .returned (.tuple #[delV adZ adZ adZ false 0 0, .int .i64 (codeOf (longA bs 30 (kDel bs)))]) ∧ Gro none w w' := by
  have HL := Lib.hid (fun w' (k : Gro none w w') => ses_rdel p cap bs hlen w' (h.gro k (by simp)))
  have hc : (codeOf (longA bs 30 (kDel bs)) == 0) = false := by
    generalize longA bs 30 (kDel bs) = q at hr
    cases q with
    | zero => exact absurd rfl hr
    | succ r => simp [codeOf]; omega
  generalize codeOf (longA bs 30 (kDel bs)) = cc at *
  generalize bs.length = m at *
  clear hr h hlen
  unfold delV adZ
  simp only
  go_enter Tryd.func18, Tryd.ntmps18
  go_wp2_with fail
  have hg1 : Gro none w (w.alloc (.cells #[.int .u8 0, .int .u8 0, .int .u8 0, .int .u8 0, .int .u8 0, .int .u8 0, .int .u8 0, .int .u8 0, .int .u8 0, .int .u8 0, .int .u8 0, .int .u8 0, .int .u8 0, .int .u8 0, .int .u8 0, .int .u8 0, .int .u8 0, .int .u8 0, .bool false, .int .i64 0, .int .i64 0] 36)) := (Gro.refl _ _).alloc _
  have hz := heap_alloc_new w (.cells #[.int .u8 0, .int .u8 0, .int .u8 0, .int .u8 0, .int .u8 0, .int .u8 0, .int .u8 0, .int .u8 0, .int .u8 0, .int .u8 0, .int .u8 0, .int .u8 0, .int .u8 0, .int .u8 0, .int .u8 0, .int .u8 0, .int .u8 0, .int .u8 0, .bool false, .int .i64 0, .int .i64 0] 36)
  generalize w.alloc (.cells #[.int .u8 0, .int .u8 0, .int .u8 0, .int .u8 0, .int .u8 0, .int .u8 0, .int .u8 0, .int .u8 0, .int .u8 0, .int .u8 0, .int .u8 0, .int .u8 0, .int .u8 0, .int .u8 0, .int .u8 0, .int .u8 0, .int .u8 0, .int .u8 0, .bool false, .int .i64 0, .int .i64 0] 36) = w1 at *
  refine (HL.out w1 hg1).mono ?_
  rintro e w2 ⟨rfl, hg⟩
  have HG1 := Lib.hid (hg1.trans hg)
  have hz2 := (hg.block _ (blk_in hz) (by simp)).trans hz
  clear hg1 hz HL hg
  go_wp2_with (refine store_row rfl 36 _ _ rfl w.heap.size rfl #[.int .u8 0, .int .u8 0, .int .u8 0, .int .u8 0, .int .u8 0, .int .u8 0, .int .u8 0, .int .u8 0, .int .u8 0, .int .u8 0, .int .u8 0, .int .u8 0, .int .u8 0, .int .u8 0, .int .u8 0, .int .u8 0, .int .u8 0, .int .u8 0, .bool false, .int .i64 0, .int .i64 0] (by rfl) #[.int .u8 0, .int .u8 0, .int .u8 0, .int .u8 0, .int .u8 0, .int .u8 0, .int .u8 0, .int .u8 0, .int .u8 0, .int .u8 0, .int .u8 0, .int .u8 0, .int .u8 0, .int .u8 0, .int .u8 0, .int .u8 0, .int .u8 0, .int .u8 0, .bool false, .int .i64 0, .int .i64 0] 36 hz2 rfl (by kernel_rfl) (by simp [Value.oneCell']) ?_)
  intro w6 hg6 hr6
  have HF := Lib.hid (HG1.out.new_row hg6 (Nat.le_refl _))
  have HR6 := Lib.hid hr6
  clear hg6 hr6 hz2
  (try go_wp2_with fail)
  (try simp only [Exit.inBlock, Exit.then])
  refine bodyPost_ret (res_rdel rfl rfl HR6.out (by kernel_rfl)) rfl ?_
  exact ⟨rfl, HF.out⟩

set_option maxHeartbeats 8000000 in
set_option maxRecDepth 100000 in
theorem raddR_ans (b o cap : Nat) (bs : List Int) (w : World) (hcap : bs.length ≤ cap) (h : Lie w (some ⟨b, o, none⟩) bs) (hb : Bytes bs) (hr : longA bs 33 (kAdd bs) = 0) (hy : bs.getD 25 0 = 1) :
    Calls Tryd.prog 17 #[.slice (some ⟨b, o, none⟩) bs.length cap] w fun e w' => (isAdd bs → e = .returned (.tuple #[addOf bs, .int .i64 0])) ∧ (¬ isAdd bs → e = .returned (.tuple #[addV adZ adZ adZ false 0 0 0 0 0 0, .int .i64 102])) ∧ Gro none w w' := by
  obtain ⟨hlen, -⟩ := longA_zero hr (by decide)
  have HL := Lib.hid (fun w' (k : Gro none w w') => ses_radd (some ⟨b, o, none⟩) cap bs (by omega) w' (h.gro k (by simp)))
  rw [hr] at HL
  have HSB := Lib.hid (fun w' (k : Gro none w w') (q : Option Addr) (d : Nat) (ys : List Int) (hy : Lie w' q ys) => sameBytes_any (some ⟨b, o, none⟩) q cap d bs ys w' (h.gro k (by simp)) hy (by omega))
  have HNUM : Hid (∀ w', Gro none w w' → ∀ i, i + 2 ≤ 33 → ∀ n c, 2 ≤ n → Calls Tryd.prog 37 #[.slice (some ⟨b, o + i, none⟩) n c] w' fun e w'' => e = .returned (.int .i64 (num2 bs i)) ∧ Gro none w' w'') := fun w' k i hi n c hn => (rnum_at2 b (o + i) n c (bs.getD i 0) (bs.getD (i + 1) 0) w' hn
    (by obtain ⟨b', o', e, hc⟩ := h.gro k (by simp) i (by omega); cases e; exact hc) (by obtain ⟨b', o', e, hc⟩ := h.gro k (by simp) (i + 1) (by omega); cases e; exact hc) (hb i) (hb (i + 1))).mono fun e w'' ⟨he, m, hm⟩ => ⟨he, hm ▸ (Gro.refl _ _).drewN m⟩
  have HN27 := Lib.hid (fun w' k n c hn => HNUM.out w' k 27 (by decide) n c hn)
  have HN29 := Lib.hid (fun w' k n c hn => HNUM.out w' k 29 (by decide) n c hn)
  have HN31 := Lib.hid (fun w' k n c hn => HNUM.out w' k 31 (by decide) n c hn)
  have HX4 : Hid (∀ w', Gro none w w' → Calls Tryd.prog 36 #[.slice (some ⟨b, o + 4, none⟩) 29 (cap - 4)] w' fun e w'' => e = .returned (adV (ad6 bs 4)) ∧ Gro none w' w'') := fun w' k => rsix_any b (o + 4) 29 (cap - 4) (ad6 bs 4) w' (by decide) ((h.gro k (by simp)).six 4 (by omega))
  have HX10 : Hid (∀ w', Gro none w w' → Calls Tryd.prog 36 #[.slice (some ⟨b, o + 10, none⟩) 23 (cap - 10)] w' fun e w'' => e = .returned (adV (ad6 bs 10)) ∧ Gro none w' w'') := fun w' k => rsix_any b (o + 10) 23 (cap - 10) (ad6 bs 10) w' (by decide) ((h.gro k (by simp)).six 10 (by omega))
  have HX16 : Hid (∀ w', Gro none w w' → Calls Tryd.prog 36 #[.slice (some ⟨b, o + 16, none⟩) 17 (cap - 16)] w' fun e w'' => e = .returned (adV (ad6 bs 16)) ∧ Gro none w' w'') := fun w' k => rsix_any b (o + 16) 17 (cap - 16) (ad6 bs 16) w' (by decide) ((h.gro k (by simp)).six 16 (by omega))
  have HC25 : Hid (∀ w', Gro none w w' → w'.cell? ⟨b, o + 25, none⟩ = some (.int .u8 1)) := fun w' g => by
    obtain ⟨b', o', e, hc⟩ := (h.gro g (by simp)) 25 (by omega)
    rw [hy] at hc
    cases e; exact hc
  have HC26 : Hid (∀ w', Gro none w w' → w'.cell? ⟨b, o + 26, none⟩ = some (.int .u8 (bs.getD 26 0))) := fun w' g => by
    obtain ⟨b', o', e, hc⟩ := (h.gro g (by simp)) 26 (by omega)
    cases e; exact hc
  have hP : isAdd bs ↔ okA true (bs.getD 26 0) (num2 bs 29 % 64 / 4) (num2 bs 29 / 64) (num2 bs 31) 0 (num2 bs 27) ∧ addL (ad6 bs 4) (ad6 bs 10) (ad6 bs 16) true (bs.getD 26 0) (num2 bs 29 % 64 / 4) (num2 bs 29 / 64) (num2 bs 31) 0 (num2 bs 27) = bs := by
    unfold isAdd
    rw [if_pos hy]
  have hV : addOf bs = addV (ad6 bs 4) (ad6 bs 10) (ad6 bs 16) true (bs.getD 26 0) (num2 bs 29 % 64 / 4) (num2 bs 29 / 64) (num2 bs 31) 0 (num2 bs 27) := by
    unfold addOf
    rw [if_pos hy]
  rw [hV]
  clear hV
  generalize isAdd bs = P at *
  obtain ⟨a27, z27⟩ : 0 ≤ num2 bs 27 ∧ num2 bs 27 < 65536 := by have := hb 27; have := hb (27 + 1); unfold num2; omega
  obtain ⟨a29, z29⟩ : 0 ≤ num2 bs 29 ∧ num2 bs 29 < 65536 := by have := hb 29; have := hb (29 + 1); unfold num2; omega
  obtain ⟨a31, z31⟩ : 0 ≤ num2 bs 31 ∧ num2 bs 31 < 65536 := by have := hb 31; have := hb (31 + 1); unfold num2; omega
  obtain ⟨tk0, tk1⟩ := hb 26
  clear HNUM
  generalize num2 bs 27 = m27 at *
  generalize num2 bs 29 = m29 at *
  generalize num2 bs 31 = m31 at *
  generalize bs.getD 26 0 = tok at *
  obtain ⟨TT, hTT⟩ : ∃ M, M = m29 % 64 / 4 := ⟨_, rfl⟩
  obtain ⟨SS, hSS⟩ : ∃ M, M = m29 / 64 := ⟨_, rfl⟩
  obtain ⟨QQ, hQQ⟩ : ∃ M, M = m29 / 4 := ⟨_, rfl⟩
  rw [← hTT, ← hSS] at hP ⊢
  have e1 : (m29).tdiv 4 = QQ := (Int.tdiv_eq_ediv_of_nonneg (by omega)).trans hQQ.symm
  have e1' : m29 / 4 = QQ := hQQ.symm
  have e2 : QQ.tmod 16 = TT := (Int.tmod_eq_emod_of_nonneg (by omega)).trans (by omega)
  have e2' : QQ % 16 = TT := by omega
  have e3 : (m29).tdiv 64 = SS := (Int.tdiv_eq_ediv_of_nonneg (by omega)).trans hSS.symm
  have e3' : m29 / 64 = SS := hSS.symm
  have wQ4 : IntKind.i64.wrap QQ = QQ := by rw [IntKind.wrap_i64]; omega
  have wT : IntKind.i64.wrap TT = TT := by rw [IntKind.wrap_i64]; omega
  have wS : IntKind.i64.wrap SS = SS := by rw [IntKind.wrap_i64]; omega
  have wK : IntKind.i64.wrap tok = tok := by rw [IntKind.wrap_i64]; omega
  have HP := Lib.hid hP
  clear hP hTT hSS hQQ hr
  generalize ad6 bs 4 = ta at *
  generalize ad6 bs 10 = fr at *
  generalize ad6 bs 16 = sa at *
  obtain ⟨t0, t1, t2, t3, t4, t5⟩ := ta
  obtain ⟨f0, f1, f2, f3, f4, f5⟩ := fr
  obtain ⟨s0, s1, s2, s3, s4, s5⟩ := sa
  rw [hlen] at HL hcap HSB ⊢
  have i33 : (33 : Int) ≤ (cap : Int) := by omega
  have j33 : 33 ≤ cap := hcap
  have d4 : ¬ cap = 4 := by omega
  have i4 : ¬ (cap : Int) = 4 := by omega
  have d10 : ¬ cap = 10 := by omega
  have i10 : ¬ (cap : Int) = 10 := by omega
  have d16 : ¬ cap = 16 := by omega
  have i16 : ¬ (cap : Int) = 16 := by omega
  have d27 : ¬ cap = 27 := by omega
  have i27 : ¬ (cap : Int) = 27 := by omega
  have d29 : ¬ cap = 29 := by omega
  have i29 : ¬ (cap : Int) = 29 := by omega
  have d31 : ¬ cap = 31 := by omega
  have i31 : ¬ (cap : Int) = 31 := by omega
  clear hcap h hb hy
  unfold addV adZ at *
  unfold adV at HX4 HX10 HX16
  simp only at HX4 HX10 HX16 ⊢
  go_enter Tryd.func17, Tryd.ntmps17
  go_wp2_with fail
  have hg1 : Gro none w (w.alloc (.cells #[.int .u8 0, .int .u8 0, .int .u8 0, .int .u8 0, .int .u8 0, .int .u8 0, .int .u8 0, .int .u8 0, .int .u8 0, .int .u8 0, .int .u8 0, .int .u8 0, .int .u8 0, .int .u8 0, .int .u8 0, .int .u8 0, .int .u8 0, .int .u8 0, .bool false, .int .i64 0, .int .i64 0, .int .i64 0, .int .i64 0, .int .i64 0, .int .i64 0] 27)) := (Gro.refl _ _).alloc _
  have hz := heap_alloc_new w (.cells #[.int .u8 0, .int .u8 0, .int .u8 0, .int .u8 0, .int .u8 0, .int .u8 0, .int .u8 0, .int .u8 0, .int .u8 0, .int .u8 0, .int .u8 0, .int .u8 0, .int .u8 0, .int .u8 0, .int .u8 0, .int .u8 0, .int .u8 0, .int .u8 0, .bool false, .int .i64 0, .int .i64 0, .int .i64 0, .int .i64 0, .int .i64 0, .int .i64 0] 27)
  generalize w.alloc (.cells #[.int .u8 0, .int .u8 0, .int .u8 0, .int .u8 0, .int .u8 0, .int .u8 0, .int .u8 0, .int .u8 0, .int .u8 0, .int .u8 0, .int .u8 0, .int .u8 0, .int .u8 0, .int .u8 0, .int .u8 0, .int .u8 0, .int .u8 0, .int .u8 0, .bool false, .int .i64 0, .int .i64 0, .int .i64 0, .int .i64 0, .int .i64 0, .int .i64 0] 27) = w1 at *
  refine (HL.out w1 hg1).mono ?_
  rintro e w2 ⟨rfl, hg⟩
  have e00 : codeOf 0 = 0 := rfl
  rw [e00]
  have HG1 := Lib.hid (hg1.trans hg)
  have hz2 := (hg.block _ (blk_in hz) (by simp)).trans hz
  have HZ := Lib.hid (fun w' (k : Gro none w2 w') => (k.block _ (blk_in hz2) (by simp)).trans hz2)
  have HWS := Lib.hid (blk_in hz2)
  clear hg1 hz HL hg hz2 e00
  go_wp2_with fail
  refine wp_region_S (RS w2 5 14 15 27 #[.int .u8 0, .int .u8 0, .int .u8 0, .int .u8 0, .int .u8 0, .int .u8 0, .int .u8 0, .int .u8 0, .int .u8 0, .int .u8 0, .int .u8 0, .int .u8 0, .int .u8 0, .int .u8 0, .int .u8 0, .int .u8 0, .int .u8 0, .int .u8 0, .bool false, .int .i64 0, .int .i64 0, .int .i64 0, .int .i64 0, .int .i64 0, .int .i64 0] #[.int .u8 t0, .int .u8 t1, .int .u8 t2, .int .u8 t3, .int .u8 t4, .int .u8 t5, .int .u8 f0, .int .u8 f1, .int .u8 f2, .int .u8 f3, .int .u8 f4, .int .u8 f5, .int .u8 s0, .int .u8 s1, .int .u8 s2, .int .u8 s3, .int .u8 s4, .int .u8 s5, .bool false, .int .i64 tok, .int .i64 0, .int .i64 0, .int .i64 0, .int .i64 0, .int .i64 0]) (by kernel_rfl) ⟨Gro.drew (Gro.refl _ _), fun h => absurd h (by decide)⟩ ?_
  refine takeY (i := 0) (x := 15) (v := .slice (some ⟨b, o, none⟩) 33 cap) rfl (by decide) (by decide) (by decide) (by kernel_rfl) (by kernel_rfl) (by kernel_rfl) (fun _ _ _ h => h) (by intro w; go_simp) ?_
  simp only [Act.put, List.setIfInBounds_toArray, List.set_cons_zero, List.set_cons_succ]
  refine takeY (i := 1) (x := 16) (v := .slice (some ⟨b, o + 4, none⟩) 29 (cap - 4)) rfl (by decide) (by decide) (by decide) (by kernel_rfl) (by kernel_rfl) (by kernel_rfl) (fun _ _ _ h => h) (by intro w; go_simp) ?_
  simp only [Act.put, List.setIfInBounds_toArray, List.set_cons_zero, List.set_cons_succ]
  refine takeC (i := 2) (x := 17) (v := .agg #[.int .u8 t0, .int .u8 t1, .int .u8 t2, .int .u8 t3, .int .u8 t4, .int .u8 t5]) 36 #[.slice (some ⟨b, o + 4, none⟩) 29 (cap - 4)] rfl (by decide) (by decide) (by decide) (by kernel_rfl) (by kernel_rfl) (by kernel_rfl) (fun _ _ _ h => h) (by intro w; go_simp) (fun w' k => HX4.out w' (HG1.out.trans k)) ?_
  simp only [Act.put, List.setIfInBounds_toArray, List.set_cons_zero, List.set_cons_succ]
  refine takeY (i := 3) (x := 18) (v := .slice (some ⟨b, o, none⟩) 33 cap) rfl (by decide) (by decide) (by decide) (by kernel_rfl) (by kernel_rfl) (by kernel_rfl) (fun _ _ _ h => h) (by intro w; go_simp) ?_
  simp only [Act.put, List.setIfInBounds_toArray, List.set_cons_zero, List.set_cons_succ]
  refine takeY (i := 4) (x := 19) (v := .slice (some ⟨b, o + 10, none⟩) 23 (cap - 10)) rfl (by decide) (by decide) (by decide) (by kernel_rfl) (by kernel_rfl) (by kernel_rfl) (fun _ _ _ h => h) (by intro w; go_simp) ?_
  simp only [Act.put, List.setIfInBounds_toArray, List.set_cons_zero, List.set_cons_succ]
  refine takeC (i := 5) (x := 20) (v := .agg #[.int .u8 f0, .int .u8 f1, .int .u8 f2, .int .u8 f3, .int .u8 f4, .int .u8 f5]) 36 #[.slice (some ⟨b, o + 10, none⟩) 23 (cap - 10)] rfl (by decide) (by decide) (by decide) (by kernel_rfl) (by kernel_rfl) (by kernel_rfl) (fun _ _ _ h => h) (by intro w; go_simp) (fun w' k => HX10.out w' (HG1.out.trans k)) ?_
  simp only [Act.put, List.setIfInBounds_toArray, List.set_cons_zero, List.set_cons_succ]
  refine takeY (i := 6) (x := 21) (v := .slice (some ⟨b, o, none⟩) 33 cap) rfl (by decide) (by decide) (by decide) (by kernel_rfl) (by kernel_rfl) (by kernel_rfl) (fun _ _ _ h => h) (by intro w; go_simp) ?_
  simp only [Act.put, List.setIfInBounds_toArray, List.set_cons_zero, List.set_cons_succ]
  refine takeY (i := 7) (x := 22) (v := .slice (some ⟨b, o + 16, none⟩) 17 (cap - 16)) rfl (by decide) (by decide) (by decide) (by kernel_rfl) (by kernel_rfl) (by kernel_rfl) (fun _ _ _ h => h) (by intro w; go_simp) ?_
  simp only [Act.put, List.setIfInBounds_toArray, List.set_cons_zero, List.set_cons_succ]
  refine takeC (i := 8) (x := 23) (v := .agg #[.int .u8 s0, .int .u8 s1, .int .u8 s2, .int .u8 s3, .int .u8 s4, .int .u8 s5]) 36 #[.slice (some ⟨b, o + 16, none⟩) 17 (cap - 16)] rfl (by decide) (by decide) (by decide) (by kernel_rfl) (by kernel_rfl) (by kernel_rfl) (fun _ _ _ h => h) (by intro w; go_simp) (fun w' k => HX16.out w' (HG1.out.trans k)) ?_
  simp only [Act.put, List.setIfInBounds_toArray, List.set_cons_zero, List.set_cons_succ]
  refine takeY (i := 9) (x := 24) (v := .slice (some ⟨b, o, none⟩) 33 cap) rfl (by decide) (by decide) (by decide) (by kernel_rfl) (by kernel_rfl) (by kernel_rfl) (fun _ _ _ h => h) (by intro w; go_simp) ?_
  simp only [Act.put, List.setIfInBounds_toArray, List.set_cons_zero, List.set_cons_succ]
  refine takeY (i := 10) (x := 25) (v := .pointer (some ⟨b, o + 26, none⟩)) rfl (by decide) (by decide) (by decide) (by kernel_rfl) (by kernel_rfl) (by kernel_rfl) (fun _ _ _ h => h) (by intro w; go_simp) ?_
  simp only [Act.put, List.setIfInBounds_toArray, List.set_cons_zero, List.set_cons_succ]
  refine takeL (i := 11) (x := 26) (v := .int .u8 tok) rfl (by decide) (by decide) (by decide) (by kernel_rfl) (by kernel_rfl) (by kernel_rfl) (fun _ _ _ h => h) (by intro w' k; have hq := HC26.out w' (HG1.out.trans k); clear k; go_simp) ?_
  simp only [Act.put, List.setIfInBounds_toArray, List.set_cons_zero, List.set_cons_succ]
  refine takeY (i := 12) (x := 27) (v := .int .i64 tok) rfl (by decide) (by decide) (by decide) (by kernel_rfl) (by kernel_rfl) (by kernel_rfl) (fun _ _ _ h => h) (by intro w; go_simp) ?_
  simp only [Act.put, List.setIfInBounds_toArray, List.set_cons_zero, List.set_cons_succ]
  refine takeY (i := 13) (x := 28) (v := .agg #[.int .u8 t0, .int .u8 t1, .int .u8 t2, .int .u8 t3, .int .u8 t4, .int .u8 t5, .int .u8 f0, .int .u8 f1, .int .u8 f2, .int .u8 f3, .int .u8 f4, .int .u8 f5, .int .u8 s0, .int .u8 s1, .int .u8 s2, .int .u8 s3, .int .u8 s4, .int .u8 s5, .bool false, .int .i64 tok, .int .i64 0, .int .i64 0, .int .i64 0, .int .i64 0, .int .i64 0]) rfl (by decide) (by decide) (by decide) (by kernel_rfl) (by kernel_rfl) (by kernel_rfl) (fun _ _ _ h => h) (by intro w; go_simp) ?_
  simp only [Act.put, List.setIfInBounds_toArray, List.set_cons_zero, List.set_cons_succ]
  refine takeA rfl (by kernel_rfl) (by decide) (by kernel_rfl) (by simp) (by intro w; go_simp) ?_
  intro g hge
  simp only [Act.put, List.setIfInBounds_toArray, List.set_cons_zero, List.set_cons_succ]
  refine takeST (g := g) rfl (by kernel_rfl) (by decide) (by kernel_rfl) (by kernel_rfl) (by decide) rfl rfl rfl rfl (by kernel_rfl) (by simp [Value.oneCell']) (by kernel_rfl) ?_
  intro w3 hg3 _ hrow
  have HG := Lib.hid hg3
  have HROW := Lib.hid hrow
  have cb := HC25.out w3 (HG1.out.trans hg3)
  clear hg3 hrow HC25 HC26 HX4 HX10 HX16
  have c18 := cell_of_row w3 g 18 _ _ _ HROW.out
  simp only [List.getElem?_toArray, List.getElem?_cons_zero, List.getElem?_cons_succ] at c18
  have hf : ∀ j, w3.frozen? ⟨g, j, none⟩ = false := fun j => frozen_of_row w3 g j _ _ HROW.out
  go_upto_region 8 with fail
  refine gen_world (fun W' => Gro none w2 W' ∧ W'.heap[g]? = some (.cells #[.int .u8 t0, .int .u8 t1, .int .u8 t2, .int .u8 t3, .int .u8 t4, .int .u8 t5, .int .u8 f0, .int .u8 f1, .int .u8 f2, .int .u8 f3, .int .u8 f4, .int .u8 f5, .int .u8 s0, .int .u8 s1, .int .u8 s2, .int .u8 s3, .int .u8 s4, .int .u8 s5, .bool true, .int .i64 tok, .int .i64 0, .int .i64 0, .int .i64 0, .int .i64 0, .int .i64 0] 27 (0, 0))) ⟨?_, ?_⟩ ?_
  · repeat (first | with_reducible exact HG.out | with_reducible refine Gro.drew ?_ | with_reducible refine Gro.setNew ?_ hge _)
  · have h := (heap_setCell_same _ g 18 _ _ (.bool true) HROW.out)
    simp only [List.setIfInBounds_toArray, List.set_cons_zero, List.set_cons_succ] at h
    exact h
  rintro w4 ⟨hg, hr⟩
  have HROW := Lib.hid hr
  have HG := Lib.hid hg
  clear hg hr
  clear c18 hf cb
  go_wp2_with fail
  refine (HN27.out _ (HG1.out.trans HG.out) _ _ (by decide)).mono ?_
  rintro e w5 ⟨rfl, hg⟩
  have HROW := Lib.hid ((hg.block g (blk_in HROW.out) (by simp)).trans HROW.out)
  have HG := Lib.hid (HG.out.trans hg)
  clear hg HN27
  have c24 := cell_of_row w5 g 24 _ _ _ HROW.out
  simp only [List.getElem?_toArray, List.getElem?_cons_zero, List.getElem?_cons_succ] at c24
  have hf : ∀ j, w5.frozen? ⟨g, j, none⟩ = false := fun j => frozen_of_row w5 g j _ _ HROW.out
  go_upto_region 9 with fail
  refine gen_world (fun W' => Gro none w2 W' ∧ W'.heap[g]? = some (.cells #[.int .u8 t0, .int .u8 t1, .int .u8 t2, .int .u8 t3, .int .u8 t4, .int .u8 t5, .int .u8 f0, .int .u8 f1, .int .u8 f2, .int .u8 f3, .int .u8 f4, .int .u8 f5, .int .u8 s0, .int .u8 s1, .int .u8 s2, .int .u8 s3, .int .u8 s4, .int .u8 s5, .bool true, .int .i64 tok, .int .i64 0, .int .i64 0, .int .i64 0, .int .i64 0, .int .i64 m27] 27 (0, 0))) ⟨?_, ?_⟩ ?_
  · repeat (first | with_reducible exact HG.out | with_reducible refine Gro.drew ?_ | with_reducible refine Gro.setNew ?_ hge _)
  · have h := (heap_setCell_same _ g 24 _ _ (.int .i64 m27) HROW.out)
    simp only [List.setIfInBounds_toArray, List.set_cons_zero, List.set_cons_succ] at h
    exact h
  rintro w6 ⟨hg, hr⟩
  have HROW := Lib.hid hr
  have HG := Lib.hid hg
  clear hg hr
  clear c24 hf
  go_wp2_with fail
  refine (HN29.out _ (HG1.out.trans HG.out) _ _ (by decide)).mono ?_
  rintro e w7 ⟨rfl, hg⟩
  have HROW := Lib.hid ((hg.block g (blk_in HROW.out) (by simp)).trans HROW.out)
  have HG := Lib.hid (HG.out.trans hg)
  clear hg HN29
  go_wp2_with fail
  refine (HN31.out _ (HG1.out.trans HG.out) _ _ (by decide)).mono ?_
  rintro e w8 ⟨rfl, hg⟩
  have HROW := Lib.hid ((hg.block g (blk_in HROW.out) (by simp)).trans HROW.out)
  have HG := Lib.hid (HG.out.trans hg)
  clear hg HN31
  have c20 := cell_of_row w8 g 20 _ _ _ HROW.out
  have c21 := cell_of_row w8 g 21 _ _ _ HROW.out
  have c22 := cell_of_row w8 g 22 _ _ _ HROW.out
  simp only [List.getElem?_toArray, List.getElem?_cons_zero, List.getElem?_cons_succ] at c20 c21 c22
  have hf : ∀ j, w8.frozen? ⟨g, j, none⟩ = false := fun j => frozen_of_row w8 g j _ _ HROW.out
  go_upto_region 16 with fail
  refine gen_world (fun W' => Gro none w2 W' ∧ W'.heap[g]? = some (.cells #[.int .u8 t0, .int .u8 t1, .int .u8 t2, .int .u8 t3, .int .u8 t4, .int .u8 t5, .int .u8 f0, .int .u8 f1, .int .u8 f2, .int .u8 f3, .int .u8 f4, .int .u8 f5, .int .u8 s0, .int .u8 s1, .int .u8 s2, .int .u8 s3, .int .u8 s4, .int .u8 s5, .bool true, .int .i64 tok, .int .i64 TT, .int .i64 SS, .int .i64 m31, .int .i64 0, .int .i64 m27] 27 (0, 0))) ⟨?_, ?_⟩ ?_
  · repeat (first | with_reducible exact HG.out | with_reducible refine Gro.drew ?_ | with_reducible refine Gro.setNew ?_ hge _)
  · have h := (heap_setCell_same _ g 21 _ _ (.int .i64 SS) (heap_setCell_same _ g 20 _ _ (.int .i64 TT) (heap_setCell_same _ g 22 _ _ (.int .i64 m31) HROW.out)))
    simp only [List.setIfInBounds_toArray, List.set_cons_zero, List.set_cons_succ] at h
    exact h
  rintro w9 ⟨hg, hr⟩
  have HROW := Lib.hid hr
  have HG := Lib.hid hg
  clear hg hr
  clear c20 c21 c22 hf
  go_wp2_with (refine load_row rfl _ _ rfl _ rfl _ _ HROW.out _ Tryd.underlying27 rfl (by kernel_rfl) ?_)
  by_cases hok : okA true tok TT SS m31 0 m27
  · have HQ := Lib.hid (radd_any ⟨t0, t1, t2, t3, t4, t5⟩ ⟨f0, f1, f2, f3, f4, f5⟩ ⟨s0, s1, s2, s3, s4, s5⟩ true tok TT SS m31 0 m27 w9 hok)
    unfold addV at HQ
    simp only at HQ
    generalize hY : addL ⟨t0, t1, t2, t3, t4, t5⟩ ⟨f0, f1, f2, f3, f4, f5⟩ ⟨s0, s1, s2, s3, s4, s5⟩ true tok TT SS m31 0 m27 = Y at HQ
    have HY := Lib.hid hY
    clear hY
    go_wp2_with fail
    refine HQ.out.mono ?_
    rintro e wX ⟨v, rfl, hgX, hoX⟩
    obtain ⟨q, d, rfl, -, hlY, -⟩ := hoX.lie
    have HROW := Lib.hid ((hgX.block g (blk_in HROW.out) (by simp)).trans HROW.out)
    have HG := Lib.hid (HG.out.trans hgX)
    have HQ2 := Lib.hid (HSB.out wX (HG1.out.trans HG.out) q d Y hlY)
    have HYB : Hid (P ↔ Y = bs) := ⟨fun h => HY.out ▸ (HP.out.1 h).2, fun h => HP.out.2 ⟨hok, HY.out ▸ h⟩⟩
    clear hoX hlY HQ HY HSB hgX
    generalize Y.length = ny at *
    go_wp2_with fail
    refine HQ2.out.mono ?_
    rintro e w' ⟨rfl, hg⟩
    have HROW := Lib.hid ((hg.block g (blk_in HROW.out) (by simp)).trans HROW.out)
    have HG := Lib.hid (HG.out.trans hg)
    clear hg HQ2
    have hzX := HZ.out _ HG.out
    by_cases heq : bs = Y
    · rw [decide_eq_true heq]
      have hPP : P := HYB.out.2 heq.symm
      clear heq HYB hok
      go_wp2_with (first | (refine load_row rfl _ _ rfl _ rfl _ _ HROW.out _ Tryd.underlying27 rfl (by kernel_rfl) ?_) | (refine store_row rfl 27 _ _ rfl w.heap.size rfl #[.int .u8 t0, .int .u8 t1, .int .u8 t2, .int .u8 t3, .int .u8 t4, .int .u8 t5, .int .u8 f0, .int .u8 f1, .int .u8 f2, .int .u8 f3, .int .u8 f4, .int .u8 f5, .int .u8 s0, .int .u8 s1, .int .u8 s2, .int .u8 s3, .int .u8 s4, .int .u8 s5, .bool true, .int .i64 tok, .int .i64 TT, .int .i64 SS, .int .i64 m31, .int .i64 0, .int .i64 m27] (by rfl) #[.int .u8 0, .int .u8 0, .int .u8 0, .int .u8 0, .int .u8 0, .int .u8 0, .int .u8 0, .int .u8 0, .int .u8 0, .int .u8 0, .int .u8 0, .int .u8 0, .int .u8 0, .int .u8 0, .int .u8 0, .int .u8 0, .int .u8 0, .int .u8 0, .bool false, .int .i64 0, .int .i64 0, .int .i64 0, .int .i64 0, .int .i64 0, .int .i64 0] 27 hzX rfl (by kernel_rfl) (by simp [Value.oneCell']) ?_))
      intro w6 hg6 hr6
      have HF := Lib.hid ((HG1.out.trans HG.out).new_row hg6 (Nat.le_refl _))
      have HR6 := Lib.hid hr6
      clear hg6 hzX hr6
      (try go_wp2_with fail)
      (try simp only [Exit.inBlock, Exit.then])
      refine bodyPost_ret (res_radd rfl rfl HR6.out (by kernel_rfl)) rfl ?_
      exact ⟨fun _ => rfl, fun h => absurd hPP h, HF.out⟩
    · rw [decide_eq_false heq]
      have hnP : ¬ P := fun h => heq (HYB.out.1 h).symm
      clear heq HYB hok
      go_wp2_with (refine store_row rfl 27 _ _ rfl w.heap.size rfl #[.int .u8 0, .int .u8 0, .int .u8 0, .int .u8 0, .int .u8 0, .int .u8 0, .int .u8 0, .int .u8 0, .int .u8 0, .int .u8 0, .int .u8 0, .int .u8 0, .int .u8 0, .int .u8 0, .int .u8 0, .int .u8 0, .int .u8 0, .int .u8 0, .bool false, .int .i64 0, .int .i64 0, .int .i64 0, .int .i64 0, .int .i64 0, .int .i64 0] (by rfl) #[.int .u8 0, .int .u8 0, .int .u8 0, .int .u8 0, .int .u8 0, .int .u8 0, .int .u8 0, .int .u8 0, .int .u8 0, .int .u8 0, .int .u8 0, .int .u8 0, .int .u8 0, .int .u8 0, .int .u8 0, .int .u8 0, .int .u8 0, .int .u8 0, .bool false, .int .i64 0, .int .i64 0, .int .i64 0, .int .i64 0, .int .i64 0, .int .i64 0] 27 hzX rfl (by kernel_rfl) (by simp [Value.oneCell']) ?_)
      intro w6 hg6 hr6
      have HF := Lib.hid ((HG1.out.trans HG.out).new_row hg6 (Nat.le_refl _))
      have HR6 := Lib.hid hr6
      clear hg6 hzX hr6
      (try go_wp2_with fail)
      (try simp only [Exit.inBlock, Exit.then])
      refine bodyPost_ret (res_radd rfl rfl HR6.out (by kernel_rfl)) rfl ?_
      exact ⟨fun h => absurd h hnP, fun _ => rfl, HF.out⟩
  · have HQ := Lib.hid (radd_bad ⟨t0, t1, t2, t3, t4, t5⟩ ⟨f0, f1, f2, f3, f4, f5⟩ ⟨s0, s1, s2, s3, s4, s5⟩ true tok TT SS m31 0 m27 w9 hok)
    unfold addV at HQ
    simp only at HQ
    have hnP : ¬ P := fun h => hok (HP.out.1 h).1
    clear hok HSB
    go_wp2_with fail
    refine HQ.out.mono ?_
    rintro e wX ⟨rfl, hgX⟩
    have HG := Lib.hid (HG.out.trans hgX)
    have hzX := HZ.out _ HG.out
    clear hgX HQ
    go_wp2_with (refine store_row rfl 27 _ _ rfl w.heap.size rfl #[.int .u8 0, .int .u8 0, .int .u8 0, .int .u8 0, .int .u8 0, .int .u8 0, .int .u8 0, .int .u8 0, .int .u8 0, .int .u8 0, .int .u8 0, .int .u8 0, .int .u8 0, .int .u8 0, .int .u8 0, .int .u8 0, .int .u8 0, .int .u8 0, .bool false, .int .i64 0, .int .i64 0, .int .i64 0, .int .i64 0, .int .i64 0, .int .i64 0] (by rfl) #[.int .u8 0, .int .u8 0, .int .u8 0, .int .u8 0, .int .u8 0, .int .u8 0, .int .u8 0, .int .u8 0, .int .u8 0, .int .u8 0, .int .u8 0, .int .u8 0, .int .u8 0, .int .u8 0, .int .u8 0, .int .u8 0, .int .u8 0, .int .u8 0, .bool false, .int .i64 0, .int .i64 0, .int .i64 0, .int .i64 0, .int .i64 0, .int .i64 0] 27 hzX rfl (by kernel_rfl) (by simp [Value.oneCell']) ?_)
    intro w6 hg6 hr6
    have HF := Lib.hid ((HG1.out.trans HG.out).new_row hg6 (Nat.le_refl _))
    have HR6 := Lib.hid hr6
    clear hg6 hzX hr6
    (try go_wp2_with fail)
    (try simp only [Exit.inBlock, Exit.then])
    refine bodyPost_ret (res_radd rfl rfl HR6.out (by kernel_rfl)) rfl ?_
    exact ⟨fun h => absurd h hnP, fun _ => rfl, HF.out⟩

set_option maxHeartbeats 8000000 in
set_option maxRecDepth 100000 in
theorem raddR_asks (b o cap : Nat) (bs : List Int) (w : World) (hcap : bs.length ≤ cap) (h : Lie w (some ⟨b, o, none⟩) bs) (hb : Bytes bs) (hr : longA bs 33 (kAdd bs) = 0) (hy : bs.getD 25 0 = 0) :
    Calls Tryd.prog 17 #[.slice (some ⟨b, o, none⟩) bs.length cap] w fun e w' => (isAdd bs → e = .returned (.tuple #[addOf bs, .int .i64 0])) ∧ (¬ isAdd bs → e = .returned (.tuple #[addV adZ adZ adZ false 0 0 0 0 0 0, .int .i64 102])) ∧ Gro none w w' := by
  obtain ⟨hlen, -⟩ := longA_zero hr (by decide)
  have HL := Lib.hid (fun w' (k : Gro none w w') => ses_radd (some ⟨b, o, none⟩) cap bs (by omega) w' (h.gro k (by simp)))
  rw [hr] at HL
  have HSB := Lib.hid (fun w' (k : Gro none w w') (q : Option Addr) (d : Nat) (ys : List Int) (hy : Lie w' q ys) => sameBytes_any (some ⟨b, o, none⟩) q cap d bs ys w' (h.gro k (by simp)) hy (by omega))
  have HNUM : Hid (∀ w', Gro none w w' → ∀ i, i + 2 ≤ 33 → ∀ n c, 2 ≤ n → Calls Tryd.prog 37 #[.slice (some ⟨b, o + i, none⟩) n c] w' fun e w'' => e = .returned (.int .i64 (num2 bs i)) ∧ Gro none w' w'') := fun w' k i hi n c hn => (rnum_at2 b (o + i) n c (bs.getD i 0) (bs.getD (i + 1) 0) w' hn
    (by obtain ⟨b', o', e, hc⟩ := h.gro k (by simp) i (by omega); cases e; exact hc) (by obtain ⟨b', o', e, hc⟩ := h.gro k (by simp) (i + 1) (by omega); cases e; exact hc) (hb i) (hb (i + 1))).mono fun e w'' ⟨he, m, hm⟩ => ⟨he, hm ▸ (Gro.refl _ _).drewN m⟩
  have HN27 := Lib.hid (fun w' k n c hn => HNUM.out w' k 27 (by decide) n c hn)
  have HN29 := Lib.hid (fun w' k n c hn => HNUM.out w' k 29 (by decide) n c hn)
  have HN31 := Lib.hid (fun w' k n c hn => HNUM.out w' k 31 (by decide) n c hn)
  have HX4 : Hid (∀ w', Gro none w w' → Calls Tryd.prog 36 #[.slice (some ⟨b, o + 4, none⟩) 29 (cap - 4)] w' fun e w'' => e = .returned (adV (ad6 bs 4)) ∧ Gro none w' w'') := fun w' k => rsix_any b (o + 4) 29 (cap - 4) (ad6 bs 4) w' (by decide) ((h.gro k (by simp)).six 4 (by omega))
  have HX10 : Hid (∀ w', Gro none w w' → Calls Tryd.prog 36 #[.slice (some ⟨b, o + 10, none⟩) 23 (cap - 10)] w' fun e w'' => e = .returned (adV (ad6 bs 10)) ∧ Gro none w' w'') := fun w' k => rsix_any b (o + 10) 23 (cap - 10) (ad6 bs 10) w' (by decide) ((h.gro k (by simp)).six 10 (by omega))
  have HX16 : Hid (∀ w', Gro none w w' → Calls Tryd.prog 36 #[.slice (some ⟨b, o + 16, none⟩) 17 (cap - 16)] w' fun e w'' => e = .returned (adV (ad6 bs 16)) ∧ Gro none w' w'') := fun w' k => rsix_any b (o + 16) 17 (cap - 16) (ad6 bs 16) w' (by decide) ((h.gro k (by simp)).six 16 (by omega))
  have HC25 : Hid (∀ w', Gro none w w' → w'.cell? ⟨b, o + 25, none⟩ = some (.int .u8 0)) := fun w' g => by
    obtain ⟨b', o', e, hc⟩ := (h.gro g (by simp)) 25 (by omega)
    rw [hy] at hc
    cases e; exact hc
  have HC26 : Hid (∀ w', Gro none w w' → w'.cell? ⟨b, o + 26, none⟩ = some (.int .u8 (bs.getD 26 0))) := fun w' g => by
    obtain ⟨b', o', e, hc⟩ := (h.gro g (by simp)) 26 (by omega)
    cases e; exact hc
  have hP : isAdd bs ↔ okA false (bs.getD 26 0) (num2 bs 27 % 64 / 4) (num2 bs 27 / 64) (num2 bs 29) (num2 bs 31 / 16) 0 ∧ addL (ad6 bs 4) (ad6 bs 10) (ad6 bs 16) false (bs.getD 26 0) (num2 bs 27 % 64 / 4) (num2 bs 27 / 64) (num2 bs 29) (num2 bs 31 / 16) 0 = bs := by
    unfold isAdd
    rw [if_neg (by rw [hy]; decide)]
  have hV : addOf bs = addV (ad6 bs 4) (ad6 bs 10) (ad6 bs 16) false (bs.getD 26 0) (num2 bs 27 % 64 / 4) (num2 bs 27 / 64) (num2 bs 29) (num2 bs 31 / 16) 0 := by
    unfold addOf
    rw [if_neg (by rw [hy]; decide)]
  rw [hV]
  clear hV
  generalize isAdd bs = P at *
  obtain ⟨a27, z27⟩ : 0 ≤ num2 bs 27 ∧ num2 bs 27 < 65536 := by have := hb 27; have := hb (27 + 1); unfold num2; omega
  obtain ⟨a29, z29⟩ : 0 ≤ num2 bs 29 ∧ num2 bs 29 < 65536 := by have := hb 29; have := hb (29 + 1); unfold num2; omega
  obtain ⟨a31, z31⟩ : 0 ≤ num2 bs 31 ∧ num2 bs 31 < 65536 := by have := hb 31; have := hb (31 + 1); unfold num2; omega
  obtain ⟨tk0, tk1⟩ := hb 26
  clear HNUM
  generalize num2 bs 27 = m27 at *
  generalize num2 bs 29 = m29 at *
  generalize num2 bs 31 = m31 at *
  generalize bs.getD 26 0 = tok at *
  obtain ⟨TT, hTT⟩ : ∃ M, M = m27 % 64 / 4 := ⟨_, rfl⟩
  obtain ⟨SS, hSS⟩ : ∃ M, M = m27 / 64 := ⟨_, rfl⟩
  obtain ⟨QQ, hQQ⟩ : ∃ M, M = m27 / 4 := ⟨_, rfl⟩
  rw [← hTT, ← hSS] at hP ⊢
  have e1 : (m27).tdiv 4 = QQ := (Int.tdiv_eq_ediv_of_nonneg (by omega)).trans hQQ.symm
  have e1' : m27 / 4 = QQ := hQQ.symm
  have e2 : QQ.tmod 16 = TT := (Int.tmod_eq_emod_of_nonneg (by omega)).trans (by omega)
  have e2' : QQ % 16 = TT := by omega
  have e3 : (m27).tdiv 64 = SS := (Int.tdiv_eq_ediv_of_nonneg (by omega)).trans hSS.symm
  have e3' : m27 / 64 = SS := hSS.symm
  have wQ4 : IntKind.i64.wrap QQ = QQ := by rw [IntKind.wrap_i64]; omega
  have wT : IntKind.i64.wrap TT = TT := by rw [IntKind.wrap_i64]; omega
  have wS : IntKind.i64.wrap SS = SS := by rw [IntKind.wrap_i64]; omega
  have wK : IntKind.i64.wrap tok = tok := by rw [IntKind.wrap_i64]; omega
  obtain ⟨SQ, hSQ⟩ : ∃ M, M = m31 / 16 := ⟨_, rfl⟩
  rw [← hSQ] at hP ⊢
  have e4 : m31.tdiv 16 = SQ := (Int.tdiv_eq_ediv_of_nonneg (by omega)).trans hSQ.symm
  have e4' : m31 / 16 = SQ := hSQ.symm
  have wQ : IntKind.i64.wrap SQ = SQ := by rw [IntKind.wrap_i64]; omega
  clear hSQ
  have HP := Lib.hid hP
  clear hP hTT hSS hQQ hr
  generalize ad6 bs 4 = ta at *
  generalize ad6 bs 10 = fr at *
  generalize ad6 bs 16 = sa at *
  obtain ⟨t0, t1, t2, t3, t4, t5⟩ := ta
  obtain ⟨f0, f1, f2, f3, f4, f5⟩ := fr
  obtain ⟨s0, s1, s2, s3, s4, s5⟩ := sa
  rw [hlen] at HL hcap HSB ⊢
  have i33 : (33 : Int) ≤ (cap : Int) := by omega
  have j33 : 33 ≤ cap := hcap
  have d4 : ¬ cap = 4 := by omega
  have i4 : ¬ (cap : Int) = 4 := by omega
  have d10 : ¬ cap = 10 := by omega
  have i10 : ¬ (cap : Int) = 10 := by omega
  have d16 : ¬ cap = 16 := by omega
  have i16 : ¬ (cap : Int) = 16 := by omega
  have d27 : ¬ cap = 27 := by omega
  have i27 : ¬ (cap : Int) = 27 := by omega
  have d29 : ¬ cap = 29 := by omega
  have i29 : ¬ (cap : Int) = 29 := by omega
  have d31 : ¬ cap = 31 := by omega
  have i31 : ¬ (cap : Int) = 31 := by omega
  clear hcap h hb hy
  unfold addV adZ at *
  unfold adV at HX4 HX10 HX16
  simp only at HX4 HX10 HX16 ⊢
  go_enter Tryd.func17, Tryd.ntmps17
  go_wp2_with fail
  have hg1 : Gro none w (w.alloc (.cells #[.int .u8 0, .int .u8 0, .int .u8 0, .int .u8 0, .int .u8 0, .int .u8 0, .int .u8 0, .int .u8 0, .int .u8 0, .int .u8 0, .int .u8 0, .int .u8 0, .int .u8 0, .int .u8 0, .int .u8 0, .int .u8 0, .int .u8 0, .int .u8 0, .bool false, .int .i64 0, .int .i64 0, .int .i64 0, .int .i64 0, .int .i64 0, .int .i64 0] 27)) := (Gro.refl _ _).alloc _
  have hz := heap_alloc_new w (.cells #[.int .u8 0, .int .u8 0, .int .u8 0, .int .u8 0, .int .u8 0, .int .u8 0, .int .u8 0, .int .u8 0, .int .u8 0, .int .u8 0, .int .u8 0, .int .u8 0, .int .u8 0, .int .u8 0, .int .u8 0, .int .u8 0, .int .u8 0, .int .u8 0, .bool false, .int .i64 0, .int .i64 0, .int .i64 0, .int .i64 0, .int .i64 0, .int .i64 0] 27)
  generalize w.alloc (.cells #[.int .u8 0, .int .u8 0, .int .u8 0, .int .u8 0, .int .u8 0, .int .u8 0, .int .u8 0, .int .u8 0, .int .u8 0, .int .u8 0, .int .u8 0, .int .u8 0, .int .u8 0, .int .u8 0, .int .u8 0, .int .u8 0, .int .u8 0, .int .u8 0, .bool false, .int .i64 0, .int .i64 0, .int .i64 0, .int .i64 0, .int .i64 0, .int .i64 0] 27) = w1 at *
  refine (HL.out w1 hg1).mono ?_
  rintro e w2 ⟨rfl, hg⟩
  have e00 : codeOf 0 = 0 := rfl
  rw [e00]
  have HG1 := Lib.hid (hg1.trans hg)
  have hz2 := (hg.block _ (blk_in hz) (by simp)).trans hz
  have HZ := Lib.hid (fun w' (k : Gro none w2 w') => (k.block _ (blk_in hz2) (by simp)).trans hz2)
  have HWS := Lib.hid (blk_in hz2)
  clear hg1 hz HL hg hz2 e00
  go_wp2_with fail
  refine wp_region_S (RS w2 5 14 15 27 #[.int .u8 0, .int .u8 0, .int .u8 0, .int .u8 0, .int .u8 0, .int .u8 0, .int .u8 0, .int .u8 0, .int .u8 0, .int .u8 0, .int .u8 0, .int .u8 0, .int .u8 0, .int .u8 0, .int .u8 0, .int .u8 0, .int .u8 0, .int .u8 0, .bool false, .int .i64 0, .int .i64 0, .int .i64 0, .int .i64 0, .int .i64 0, .int .i64 0] #[.int .u8 t0, .int .u8 t1, .int .u8 t2, .int .u8 t3, .int .u8 t4, .int .u8 t5, .int .u8 f0, .int .u8 f1, .int .u8 f2, .int .u8 f3, .int .u8 f4, .int .u8 f5, .int .u8 s0, .int .u8 s1, .int .u8 s2, .int .u8 s3, .int .u8 s4, .int .u8 s5, .bool false, .int .i64 tok, .int .i64 0, .int .i64 0, .int .i64 0, .int .i64 0, .int .i64 0]) (by kernel_rfl) ⟨Gro.drew (Gro.refl _ _), fun h => absurd h (by decide)⟩ ?_
  refine takeY (i := 0) (x := 15) (v := .slice (some ⟨b, o, none⟩) 33 cap) rfl (by decide) (by decide) (by decide) (by kernel_rfl) (by kernel_rfl) (by kernel_rfl) (fun _ _ _ h => h) (by intro w; go_simp) ?_
  simp only [Act.put, List.setIfInBounds_toArray, List.set_cons_zero, List.set_cons_succ]
  refine takeY (i := 1) (x := 16) (v := .slice (some ⟨b, o + 4, none⟩) 29 (cap - 4)) rfl (by decide) (by decide) (by decide) (by kernel_rfl) (by kernel_rfl) (by kernel_rfl) (fun _ _ _ h => h) (by intro w; go_simp) ?_
  simp only [Act.put, List.setIfInBounds_toArray, List.set_cons_zero, List.set_cons_succ]
  refine takeC (i := 2) (x := 17) (v := .agg #[.int .u8 t0, .int .u8 t1, .int .u8 t2, .int .u8 t3, .int .u8 t4, .int .u8 t5]) 36 #[.slice (some ⟨b, o + 4, none⟩) 29 (cap - 4)] rfl (by decide) (by decide) (by decide) (by kernel_rfl) (by kernel_rfl) (by kernel_rfl) (fun _ _ _ h => h) (by intro w; go_simp) (fun w' k => HX4.out w' (HG1.out.trans k)) ?_
  simp only [Act.put, List.setIfInBounds_toArray, List.set_cons_zero, List.set_cons_succ]
  refine takeY (i := 3) (x := 18) (v := .slice (some ⟨b, o, none⟩) 33 cap) rfl (by decide) (by decide) (by decide) (by kernel_rfl) (by kernel_rfl) (by kernel_rfl) (fun _ _ _ h => h) (by intro w; go_simp) ?_
  simp only [Act.put, List.setIfInBounds_toArray, List.set_cons_zero, List.set_cons_succ]
  refine takeY (i := 4) (x := 19) (v := .slice (some ⟨b, o + 10, none⟩) 23 (cap - 10)) rfl (by decide) (by decide) (by decide) (by kernel_rfl) (by kernel_rfl) (by kernel_rfl) (fun _ _ _ h => h) (by intro w; go_simp) ?_
  simp only [Act.put, List.setIfInBounds_toArray, List.set_cons_zero, List.set_cons_succ]
  refine takeC (i := 5) (x := 20) (v := .agg #[.int .u8 f0, .int .u8 f1, .int .u8 f2, .int .u8 f3, .int .u8 f4, .int .u8 f5]) 36 #[.slice (some ⟨b, o + 10, none⟩) 23 (cap - 10)] rfl (by decide) (by decide) (by decide) (by kernel_rfl) (by kernel_rfl) (by kernel_rfl) (fun _ _ _ h => h) (by intro w; go_simp) (fun w' k => HX10.out w' (HG1.out.trans k)) ?_
  simp only [Act.put, List.setIfInBounds_toArray, List.set_cons_zero, List.set_cons_succ]
  refine takeY (i := 6) (x := 21) (v := .slice (some ⟨b, o, none⟩) 33 cap) rfl (by decide) (by decide) (by decide) (by kernel_rfl) (by kernel_rfl) (by kernel_rfl) (fun _ _ _ h => h) (by intro w; go_simp) ?_
  simp only [Act.put, List.setIfInBounds_toArray, List.set_cons_zero, List.set_cons_succ]
  refine takeY (i := 7) (x := 22) (v := .slice (some ⟨b, o + 16, none⟩) 17 (cap - 16)) rfl (by decide) (by decide) (by decide) (by kernel_rfl) (by kernel_rfl) (by kernel_rfl) (fun _ _ _ h => h) (by intro w; go_simp) ?_
  simp only [Act.put, List.setIfInBounds_toArray, List.set_cons_zero, List.set_cons_succ]
  refine takeC (i := 8) (x := 23) (v := .agg #[.int .u8 s0, .int .u8 s1, .int .u8 s2, .int .u8 s3, .int .u8 s4, .int .u8 s5]) 36 #[.slice (some ⟨b, o + 16, none⟩) 17 (cap - 16)] rfl (by decide) (by decide) (by decide) (by kernel_rfl) (by kernel_rfl) (by kernel_rfl) (fun _ _ _ h => h) (by intro w; go_simp) (fun w' k => HX16.out w' (HG1.out.trans k)) ?_
  simp only [Act.put, List.setIfInBounds_toArray, List.set_cons_zero, List.set_cons_succ]
  refine takeY (i := 9) (x := 24) (v := .slice (some ⟨b, o, none⟩) 33 cap) rfl (by decide) (by decide) (by decide) (by kernel_rfl) (by kernel_rfl) (by kernel_rfl) (fun _ _ _ h => h) (by intro w; go_simp) ?_
  simp only [Act.put, List.setIfInBounds_toArray, List.set_cons_zero, List.set_cons_succ]
  refine takeY (i := 10) (x := 25) (v := .pointer (some ⟨b, o + 26, none⟩)) rfl (by decide) (by decide) (by decide) (by kernel_rfl) (by kernel_rfl) (by kernel_rfl) (fun _ _ _ h => h) (by intro w; go_simp) ?_
  simp only [Act.put, List.setIfInBounds_toArray, List.set_cons_zero, List.set_cons_succ]
  refine takeL (i := 11) (x := 26) (v := .int .u8 tok) rfl (by decide) (by decide) (by decide) (by kernel_rfl) (by kernel_rfl) (by kernel_rfl) (fun _ _ _ h => h) (by intro w' k; have hq := HC26.out w' (HG1.out.trans k); clear k; go_simp) ?_
  simp only [Act.put, List.setIfInBounds_toArray, List.set_cons_zero, List.set_cons_succ]
  refine takeY (i := 12) (x := 27) (v := .int .i64 tok) rfl (by decide) (by decide) (by decide) (by kernel_rfl) (by kernel_rfl) (by kernel_rfl) (fun _ _ _ h => h) (by intro w; go_simp) ?_
  simp only [Act.put, List.setIfInBounds_toArray, List.set_cons_zero, List.set_cons_succ]
  refine takeY (i := 13) (x := 28) (v := .agg #[.int .u8 t0, .int .u8 t1, .int .u8 t2, .int .u8 t3, .int .u8 t4, .int .u8 t5, .int .u8 f0, .int .u8 f1, .int .u8 f2, .int .u8 f3, .int .u8 f4, .int .u8 f5, .int .u8 s0, .int .u8 s1, .int .u8 s2, .int .u8 s3, .int .u8 s4, .int .u8 s5, .bool false, .int .i64 tok, .int .i64 0, .int .i64 0, .int .i64 0, .int .i64 0, .int .i64 0]) rfl (by decide) (by decide) (by decide) (by kernel_rfl) (by kernel_rfl) (by kernel_rfl) (fun _ _ _ h => h) (by intro w; go_simp) ?_
  simp only [Act.put, List.setIfInBounds_toArray, List.set_cons_zero, List.set_cons_succ]
  refine takeA rfl (by kernel_rfl) (by decide) (by kernel_rfl) (by simp) (by intro w; go_simp) ?_
  intro g hge
  simp only [Act.put, List.setIfInBounds_toArray, List.set_cons_zero, List.set_cons_succ]
  refine takeST (g := g) rfl (by kernel_rfl) (by decide) (by kernel_rfl) (by kernel_rfl) (by decide) rfl rfl rfl rfl (by kernel_rfl) (by simp [Value.oneCell']) (by kernel_rfl) ?_
  intro w3 hg3 _ hrow
  have HG := Lib.hid hg3
  have HROW := Lib.hid hrow
  have cb := HC25.out w3 (HG1.out.trans hg3)
  clear hg3 hrow HC25 HC26 HX4 HX10 HX16
  go_wp2_with fail
  refine (HN27.out _ (HG1.out.trans HG.out) _ _ (by decide)).mono ?_
  rintro e w4 ⟨rfl, hg⟩
  have HROW := Lib.hid ((hg.block g (blk_in HROW.out) (by simp)).trans HROW.out)
  have HG := Lib.hid (HG.out.trans hg)
  clear hg HN27 cb
  go_wp2_with fail
  refine (HN29.out _ (HG1.out.trans HG.out) _ _ (by decide)).mono ?_
  rintro e w5 ⟨rfl, hg⟩
  have HROW := Lib.hid ((hg.block g (blk_in HROW.out) (by simp)).trans HROW.out)
  have HG := Lib.hid (HG.out.trans hg)
  clear hg HN29
  have c22 := cell_of_row w5 g 22 _ _ _ HROW.out
  simp only [List.getElem?_toArray, List.getElem?_cons_zero, List.getElem?_cons_succ] at c22
  have hf : ∀ j, w5.frozen? ⟨g, j, none⟩ = false := fun j => frozen_of_row w5 g j _ _ HROW.out
  go_upto_region 13 with fail
  refine gen_world (fun W' => Gro none w2 W' ∧ W'.heap[g]? = some (.cells #[.int .u8 t0, .int .u8 t1, .int .u8 t2, .int .u8 t3, .int .u8 t4, .int .u8 t5, .int .u8 f0, .int .u8 f1, .int .u8 f2, .int .u8 f3, .int .u8 f4, .int .u8 f5, .int .u8 s0, .int .u8 s1, .int .u8 s2, .int .u8 s3, .int .u8 s4, .int .u8 s5, .bool false, .int .i64 tok, .int .i64 0, .int .i64 0, .int .i64 m29, .int .i64 0, .int .i64 0] 27 (0, 0))) ⟨?_, ?_⟩ ?_
  · repeat (first | with_reducible exact HG.out | with_reducible refine Gro.drew ?_ | with_reducible refine Gro.setNew ?_ hge _)
  · have h := (heap_setCell_same _ g 22 _ _ (.int .i64 m29) HROW.out)
    simp only [List.setIfInBounds_toArray, List.set_cons_zero, List.set_cons_succ] at h
    exact h
  rintro w6 ⟨hg, hr⟩
  have HROW := Lib.hid hr
  have HG := Lib.hid hg
  clear hg hr
  clear c22 hf
  go_wp2_with fail
  refine (HN31.out _ (HG1.out.trans HG.out) _ _ (by decide)).mono ?_
  rintro e w8 ⟨rfl, hg⟩
  have HROW := Lib.hid ((hg.block g (blk_in HROW.out) (by simp)).trans HROW.out)
  have HG := Lib.hid (HG.out.trans hg)
  clear hg HN31
  have c20 := cell_of_row w8 g 20 _ _ _ HROW.out
  have c21 := cell_of_row w8 g 21 _ _ _ HROW.out
  have c23 := cell_of_row w8 g 23 _ _ _ HROW.out
  simp only [List.getElem?_toArray, List.getElem?_cons_zero, List.getElem?_cons_succ] at c20 c21 c23
  have hf : ∀ j, w8.frozen? ⟨g, j, none⟩ = false := fun j => frozen_of_row w8 g j _ _ HROW.out
  go_upto_region 16 with fail
  refine gen_world (fun W' => Gro none w2 W' ∧ W'.heap[g]? = some (.cells #[.int .u8 t0, .int .u8 t1, .int .u8 t2, .int .u8 t3, .int .u8 t4, .int .u8 t5, .int .u8 f0, .int .u8 f1, .int .u8 f2, .int .u8 f3, .int .u8 f4, .int .u8 f5, .int .u8 s0, .int .u8 s1, .int .u8 s2, .int .u8 s3, .int .u8 s4, .int .u8 s5, .bool false, .int .i64 tok, .int .i64 TT, .int .i64 SS, .int .i64 m29, .int .i64 SQ, .int .i64 0] 27 (0, 0))) ⟨?_, ?_⟩ ?_
  · repeat (first | with_reducible exact HG.out | with_reducible refine Gro.drew ?_ | with_reducible refine Gro.setNew ?_ hge _)
  · have h := (heap_setCell_same _ g 21 _ _ (.int .i64 SS) (heap_setCell_same _ g 20 _ _ (.int .i64 TT) (heap_setCell_same _ g 23 _ _ (.int .i64 SQ) HROW.out)))
    simp only [List.setIfInBounds_toArray, List.set_cons_zero, List.set_cons_succ] at h
    exact h
  rintro w9 ⟨hg, hr⟩
  have HROW := Lib.hid hr
  have HG := Lib.hid hg
  clear hg hr
  clear c20 c21 c23 hf
  go_wp2_with (refine load_row rfl _ _ rfl _ rfl _ _ HROW.out _ Tryd.underlying27 rfl (by kernel_rfl) ?_)
  by_cases hok : okA false tok TT SS m29 SQ 0
  · have HQ := Lib.hid (radd_any ⟨t0, t1, t2, t3, t4, t5⟩ ⟨f0, f1, f2, f3, f4, f5⟩ ⟨s0, s1, s2, s3, s4, s5⟩ false tok TT SS m29 SQ 0 w9 hok)
    unfold addV at HQ
    simp only at HQ
    generalize hY : addL ⟨t0, t1, t2, t3, t4, t5⟩ ⟨f0, f1, f2, f3, f4, f5⟩ ⟨s0, s1, s2, s3, s4, s5⟩ false tok TT SS m29 SQ 0 = Y at HQ
    have HY := Lib.hid hY
    clear hY
    go_wp2_with fail
    refine HQ.out.mono ?_
    rintro e wX ⟨v, rfl, hgX, hoX⟩
    obtain ⟨q, d, rfl, -, hlY, -⟩ := hoX.lie
    have HROW := Lib.hid ((hgX.block g (blk_in HROW.out) (by simp)).trans HROW.out)
    have HG := Lib.hid (HG.out.trans hgX)
    have HQ2 := Lib.hid (HSB.out wX (HG1.out.trans HG.out) q d Y hlY)
    have HYB : Hid (P ↔ Y = bs) := ⟨fun h => HY.out ▸ (HP.out.1 h).2, fun h => HP.out.2 ⟨hok, HY.out ▸ h⟩⟩
    clear hoX hlY HQ HY HSB hgX
    generalize Y.length = ny at *
    go_wp2_with fail
    refine HQ2.out.mono ?_
    rintro e w' ⟨rfl, hg⟩
    have HROW := Lib.hid ((hg.block g (blk_in HROW.out) (by simp)).trans HROW.out)
    have HG := Lib.hid (HG.out.trans hg)
    clear hg HQ2
    have hzX := HZ.out _ HG.out
    by_cases heq : bs = Y
    · rw [decide_eq_true heq]
      have hPP : P := HYB.out.2 heq.symm
      clear heq HYB hok
      go_wp2_with (first | (refine load_row rfl _ _ rfl _ rfl _ _ HROW.out _ Tryd.underlying27 rfl (by kernel_rfl) ?_) | (refine store_row rfl 27 _ _ rfl w.heap.size rfl #[.int .u8 t0, .int .u8 t1, .int .u8 t2, .int .u8 t3, .int .u8 t4, .int .u8 t5, .int .u8 f0, .int .u8 f1, .int .u8 f2, .int .u8 f3, .int .u8 f4, .int .u8 f5, .int .u8 s0, .int .u8 s1, .int .u8 s2, .int .u8 s3, .int .u8 s4, .int .u8 s5, .bool false, .int .i64 tok, .int .i64 TT, .int .i64 SS, .int .i64 m29, .int .i64 SQ, .int .i64 0] (by rfl) #[.int .u8 0, .int .u8 0, .int .u8 0, .int .u8 0, .int .u8 0, .int .u8 0, .int .u8 0, .int .u8 0, .int .u8 0, .int .u8 0, .int .u8 0, .int .u8 0, .int .u8 0, .int .u8 0, .int .u8 0, .int .u8 0, .int .u8 0, .int .u8 0, .bool false, .int .i64 0, .int .i64 0, .int .i64 0, .int .i64 0, .int .i64 0, .int .i64 0] 27 hzX rfl (by kernel_rfl) (by simp [Value.oneCell']) ?_))
      intro w6 hg6 hr6
      have HF := Lib.hid ((HG1.out.trans HG.out).new_row hg6 (Nat.le_refl _))
      have HR6 := Lib.hid hr6
      clear hg6 hzX hr6
      (try go_wp2_with fail)
      (try simp only [Exit.inBlock, Exit.then])
      refine bodyPost_ret (res_radd rfl rfl HR6.out (by kernel_rfl)) rfl ?_
      exact ⟨fun _ => rfl, fun h => absurd hPP h, HF.out⟩
    · rw [decide_eq_false heq]
      have hnP : ¬ P := fun h => heq (HYB.out.1 h).symm
      clear heq HYB hok
      go_wp2_with (refine store_row rfl 27 _ _ rfl w.heap.size rfl #[.int .u8 0, .int .u8 0, .int .u8 0, .int .u8 0, .int .u8 0, .int .u8 0, .int .u8 0, .int .u8 0, .int .u8 0, .int .u8 0, .int .u8 0, .int .u8 0, .int .u8 0, .int .u8 0, .int .u8 0, .int .u8 0, .int .u8 0, .int .u8 0, .bool false, .int .i64 0, .int .i64 0, .int .i64 0, .int .i64 0, .int .i64 0, .int .i64 0] (by rfl) #[.int .u8 0, .int .u8 0, .int .u8 0, .int .u8 0, .int .u8 0, .int .u8 0, .int .u8 0, .int .u8 0, .int .u8 0, .int .u8 0, .int .u8 0, .int .u8 0, .int .u8 0, .int .u8 0, .int .u8 0, .int .u8 0, .int .u8 0, .int .u8 0, .bool false, .int .i64 0, .int .i64 0, .int .i64 0, .int .i64 0, .int .i64 0, .int .i64 0] 27 hzX rfl (by kernel_rfl) (by simp [Value.oneCell']) ?_)
      intro w6 hg6 hr6
      have HF := Lib.hid ((HG1.out.trans HG.out).new_row hg6 (Nat.le_refl _))
      have HR6 := Lib.hid hr6
      clear hg6 hzX hr6
      (try go_wp2_with fail)
      (try simp only [Exit.inBlock, Exit.then])
      refine bodyPost_ret (res_radd rfl rfl HR6.out (by kernel_rfl)) rfl ?_
      exact ⟨fun h => absurd h hnP, fun _ => rfl, HF.out⟩
  · have HQ := Lib.hid (radd_bad ⟨t0, t1, t2, t3, t4, t5⟩ ⟨f0, f1, f2, f3, f4, f5⟩ ⟨s0, s1, s2, s3, s4, s5⟩ false tok TT SS m29 SQ 0 w9 hok)
    unfold addV at HQ
    simp only at HQ
    have hnP : ¬ P := fun h => hok (HP.out.1 h).1
    clear hok HSB
    go_wp2_with fail
    refine HQ.out.mono ?_
    rintro e wX ⟨rfl, hgX⟩
    have HG := Lib.hid (HG.out.trans hgX)
    have hzX := HZ.out _ HG.out
    clear hgX HQ
    go_wp2_with (refine store_row rfl 27 _ _ rfl w.heap.size rfl #[.int .u8 0, .int .u8 0, .int .u8 0, .int .u8 0, .int .u8 0, .int .u8 0, .int .u8 0, .int .u8 0, .int .u8 0, .int .u8 0, .int .u8 0, .int .u8 0, .int .u8 0, .int .u8 0, .int .u8 0, .int .u8 0, .int .u8 0, .int .u8 0, .bool false, .int .i64 0, .int .i64 0, .int .i64 0, .int .i64 0, .int .i64 0, .int .i64 0] (by rfl) #[.int .u8 0, .int .u8 0, .int .u8 0, .int .u8 0, .int .u8 0, .int .u8 0, .int .u8 0, .int .u8 0, .int .u8 0, .int .u8 0, .int .u8 0, .int .u8 0, .int .u8 0, .int .u8 0, .int .u8 0, .int .u8 0, .int .u8 0, .int .u8 0, .bool false, .int .i64 0, .int .i64 0, .int .i64 0, .int .i64 0, .int .i64 0, .int .i64 0] 27 hzX rfl (by kernel_rfl) (by simp [Value.oneCell']) ?_)
    intro w6 hg6 hr6
    have HF := Lib.hid ((HG1.out.trans HG.out).new_row hg6 (Nat.le_refl _))
    have HR6 := Lib.hid hr6
    clear hg6 hzX hr6
    (try go_wp2_with fail)
    (try simp only [Exit.inBlock, Exit.then])
    refine bodyPost_ret (res_radd rfl rfl HR6.out (by kernel_rfl)) rfl ?_
    exact ⟨fun h => absurd h hnP, fun _ => rfl, HF.out⟩

theorem and_small (a b : Nat) (ha : a < 4611686018427387904) (hb : b < 4611686018427387904) : bits .and .i64 (a : Int) (b : Int) = ((a &&& b : Nat) : Int) := by
  have hx : a &&& b < 2 ^ 62 := Nat.and_lt_two_pow _ (by omega)
  have h1 : (BitVec.ofInt 64 (a : Int)).toNat = a := by
    rw [BitVec.ofInt_natCast, BitVec.toNat_ofNat]; exact Nat.mod_eq_of_lt (by omega)
  have h2 : (BitVec.ofInt 64 (b : Int)).toNat = b := by
    rw [BitVec.ofInt_natCast, BitVec.toNat_ofNat]; exact Nat.mod_eq_of_lt (by omega)
  show IntKind.i64.wrap ((BitVec.ofInt 64 (a : Int) &&& BitVec.ofInt 64 (b : Int)).toNat : Int) = _
  rw [BitVec.toNat_and, h1, h2]
  simp [IntKind.wrap, IntKind.bits, IntKind.signed]
  omega
theorem mine_ne (n : Int) (h0 : 0 ≤ n) (h1 : n < 65536) : (bits .and .i64 n 2048 != 0) = decide (0 < bits .and .i64 n 2048) := by
  obtain ⟨a, rfl⟩ := Int.eq_ofNat_of_zero_le h0
  have e := and_small a 2048 (by omega) (by decide)
  have e' : bits .and .i64 (a : Int) 2048 = ((a &&& 2048 : Nat) : Int) := e
  rw [e']
  generalize a &&& 2048 = k
  rcases Nat.eq_zero_or_pos k with hk | hk
  · subst hk
    rfl
  · rw [decide_eq_true (by omega)]
    simp
    omega
set_option maxHeartbeats 8000000 in
set_option maxRecDepth 100000 in
theorem rdelR_main (b o cap : Nat) (bs : List Int) (w : World) (hcap : bs.length ≤ cap) (h : Lie w (some ⟨b, o, none⟩) bs) (hb : Bytes bs) (hr : longA bs 30 (kDel bs) = 0) :
    Calls Tryd.prog 18 #[.slice (some ⟨b, o, none⟩) bs.length cap] w fun e w' => (isDel bs → e = .returned (.tuple #[delV (ad6 bs 4) (ad6 bs 10) (ad6 bs 16) (mineOf bs) (num2 bs 26 / 4096) (num2 bs 28), .int .i64 0])) ∧ (¬ isDel bs → e = .returned (.tuple #[delV adZ adZ adZ false 0 0, .int .i64 102])) ∧ Gro none w w' := by
  obtain ⟨hlen, -⟩ := longA_zero hr (by decide)
  have HL := Lib.hid (fun w' (k : Gro none w w') => ses_rdel (some ⟨b, o, none⟩) cap bs (by omega) w' (h.gro k (by simp)))
  rw [hr] at HL
  have HSB := Lib.hid (fun w' (k : Gro none w w') (q : Option Addr) (d : Nat) (ys : List Int) (hy : Lie w' q ys) => sameBytes_any (some ⟨b, o, none⟩) q cap d bs ys w' (h.gro k (by simp)) hy (by omega))
  have HNUM : Hid (∀ w', Gro none w w' → ∀ i, i + 2 ≤ 30 → ∀ n c, 2 ≤ n → Calls Tryd.prog 37 #[.slice (some ⟨b, o + i, none⟩) n c] w' fun e w'' => e = .returned (.int .i64 (num2 bs i)) ∧ Gro none w' w'') := fun w' k i hi n c hn => (rnum_at2 b (o + i) n c (bs.getD i 0) (bs.getD (i + 1) 0) w' hn
    (by obtain ⟨b', o', e, hc⟩ := h.gro k (by simp) i (by omega); cases e; exact hc) (by obtain ⟨b', o', e, hc⟩ := h.gro k (by simp) (i + 1) (by omega); cases e; exact hc) (hb i) (hb (i + 1))).mono fun e w'' ⟨he, m, hm⟩ => ⟨he, hm ▸ (Gro.refl _ _).drewN m⟩
  have HN26 := Lib.hid (fun w' k n c hn => HNUM.out w' k 26 (by decide) n c hn)
  have HN28 := Lib.hid (fun w' k n c hn => HNUM.out w' k 28 (by decide) n c hn)
  have HX4 : Hid (∀ w', Gro none w w' → Calls Tryd.prog 36 #[.slice (some ⟨b, o + 4, none⟩) 26 (cap - 4)] w' fun e w'' => e = .returned (adV (ad6 bs 4)) ∧ Gro none w' w'') := fun w' k => rsix_any b (o + 4) 26 (cap - 4) (ad6 bs 4) w' (by decide) ((h.gro k (by simp)).six 4 (by omega))
  have HX10 : Hid (∀ w', Gro none w w' → Calls Tryd.prog 36 #[.slice (some ⟨b, o + 10, none⟩) 20 (cap - 10)] w' fun e w'' => e = .returned (adV (ad6 bs 10)) ∧ Gro none w' w'') := fun w' k => rsix_any b (o + 10) 20 (cap - 10) (ad6 bs 10) w' (by decide) ((h.gro k (by simp)).six 10 (by omega))
  have HX16 : Hid (∀ w', Gro none w w' → Calls Tryd.prog 36 #[.slice (some ⟨b, o + 16, none⟩) 14 (cap - 16)] w' fun e w'' => e = .returned (adV (ad6 bs 16)) ∧ Gro none w' w'') := fun w' k => rsix_any b (o + 16) 14 (cap - 16) (ad6 bs 16) w' (by decide) ((h.gro k (by simp)).six 16 (by omega))
  have hP : isDel bs ↔ okD (num2 bs 26 / 4096) (num2 bs 28) ∧ delL (ad6 bs 4) (ad6 bs 10) (ad6 bs 16) (mineOf bs) (num2 bs 26 / 4096) (num2 bs 28) = bs := Iff.rfl
  obtain ⟨a26, z26⟩ : 0 ≤ num2 bs 26 ∧ num2 bs 26 < 65536 := by have := hb 26; have := hb (26 + 1); unfold num2; omega
  obtain ⟨a28, z28⟩ : 0 ≤ num2 bs 28 ∧ num2 bs 28 < 65536 := by have := hb 28; have := hb (28 + 1); unfold num2; omega
  have hmine : (bits .and .i64 (num2 bs 26) 2048 != 0) = mineOf bs := mine_ne _ a26 z26
  generalize isDel bs = P at *
  generalize mineOf bs = MB at *
  clear HNUM
  generalize num2 bs 26 = m26 at *
  generalize num2 bs 28 = m28 at *
  obtain ⟨TT, hTT⟩ : ∃ M, M = m26 / 4096 := ⟨_, rfl⟩
  rw [← hTT] at hP ⊢
  have e1 : m26.tdiv 4096 = TT := (Int.tdiv_eq_ediv_of_nonneg (by omega)).trans hTT.symm
  have e1' : m26 / 4096 = TT := hTT.symm
  have wT : IntKind.i64.wrap TT = TT := by rw [IntKind.wrap_i64]; omega
  have HP := Lib.hid hP
  clear hP hTT hr
  generalize ad6 bs 4 = ta at *
  generalize ad6 bs 10 = fr at *
  generalize ad6 bs 16 = sa at *
  obtain ⟨t0, t1, t2, t3, t4, t5⟩ := ta
  obtain ⟨f0, f1, f2, f3, f4, f5⟩ := fr
  obtain ⟨s0, s1, s2, s3, s4, s5⟩ := sa
  rw [hlen] at HL hcap HSB ⊢
  have i30 : (30 : Int) ≤ (cap : Int) := by omega
  have j30 : 30 ≤ cap := hcap
  have d4 : ¬ cap = 4 := by omega
  have i4 : ¬ (cap : Int) = 4 := by omega
  have d10 : ¬ cap = 10 := by omega
  have i10 : ¬ (cap : Int) = 10 := by omega
  have d16 : ¬ cap = 16 := by omega
  have i16 : ¬ (cap : Int) = 16 := by omega
  have d26 : ¬ cap = 26 := by omega
  have i26 : ¬ (cap : Int) = 26 := by omega
  have d28 : ¬ cap = 28 := by omega
  have i28 : ¬ (cap : Int) = 28 := by omega
  clear hcap h hb
  unfold delV adZ at *
  unfold adV at HX4 HX10 HX16
  simp only at HX4 HX10 HX16 ⊢
  go_enter Tryd.func18, Tryd.ntmps18
  go_wp2_with fail
  have hg1 : Gro none w (w.alloc (.cells #[.int .u8 0, .int .u8 0, .int .u8 0, .int .u8 0, .int .u8 0, .int .u8 0, .int .u8 0, .int .u8 0, .int .u8 0, .int .u8 0, .int .u8 0, .int .u8 0, .int .u8 0, .int .u8 0, .int .u8 0, .int .u8 0, .int .u8 0, .int .u8 0, .bool false, .int .i64 0, .int .i64 0] 36)) := (Gro.refl _ _).alloc _
  have hz := heap_alloc_new w (.cells #[.int .u8 0, .int .u8 0, .int .u8 0, .int .u8 0, .int .u8 0, .int .u8 0, .int .u8 0, .int .u8 0, .int .u8 0, .int .u8 0, .int .u8 0, .int .u8 0, .int .u8 0, .int .u8 0, .int .u8 0, .int .u8 0, .int .u8 0, .int .u8 0, .bool false, .int .i64 0, .int .i64 0] 36)
  generalize w.alloc (.cells #[.int .u8 0, .int .u8 0, .int .u8 0, .int .u8 0, .int .u8 0, .int .u8 0, .int .u8 0, .int .u8 0, .int .u8 0, .int .u8 0, .int .u8 0, .int .u8 0, .int .u8 0, .int .u8 0, .int .u8 0, .int .u8 0, .int .u8 0, .int .u8 0, .bool false, .int .i64 0, .int .i64 0] 36) = w1 at *
  refine (HL.out w1 hg1).mono ?_
  rintro e wb ⟨rfl, hg⟩
  have e00 : codeOf 0 = 0 := rfl
  rw [e00]
  have HGb := Lib.hid (hg1.trans hg)
  have hzb := (hg.block _ (blk_in hz) (by simp)).trans hz
  clear hg1 hz HL hg e00
  go_wp2_with fail
  refine (HN26.out wb HGb.out _ _ (by decide)).mono ?_
  rintro e w2 ⟨rfl, hg⟩
  have HG1 := Lib.hid (HGb.out.trans hg)
  have hz2 := (hg.block _ (blk_in hzb) (by simp)).trans hzb
  have HZ := Lib.hid (fun w' (k : Gro none w2 w') => (k.block _ (blk_in hz2) (by simp)).trans hz2)
  have HWS := Lib.hid (blk_in hz2)
  have HN28 := Lib.hid (fun w' k => HN28.out w' k 2 (cap - 28) (by decide))
  clear hg hz2 hzb HGb HN26
  go_wp2_with fail
  refine wp_region_S (RS w2 6 18 19 36 #[.int .u8 0, .int .u8 0, .int .u8 0, .int .u8 0, .int .u8 0, .int .u8 0, .int .u8 0, .int .u8 0, .int .u8 0, .int .u8 0, .int .u8 0, .int .u8 0, .int .u8 0, .int .u8 0, .int .u8 0, .int .u8 0, .int .u8 0, .int .u8 0, .bool false, .int .i64 0, .int .i64 0] #[.int .u8 t0, .int .u8 t1, .int .u8 t2, .int .u8 t3, .int .u8 t4, .int .u8 t5, .int .u8 f0, .int .u8 f1, .int .u8 f2, .int .u8 f3, .int .u8 f4, .int .u8 f5, .int .u8 s0, .int .u8 s1, .int .u8 s2, .int .u8 s3, .int .u8 s4, .int .u8 s5, .bool MB, .int .i64 TT, .int .i64 m28]) (by kernel_rfl) ⟨Gro.drew (Gro.refl _ _), fun h => absurd h (by decide)⟩ ?_
  refine takeY (i := 0) (x := 18) (v := .slice (some ⟨b, o, none⟩) 30 cap) rfl (by decide) (by decide) (by decide) (by kernel_rfl) (by kernel_rfl) (by kernel_rfl) (fun _ _ _ h => h) (by intro w; go_simp) ?_
  simp only [Act.put, List.setIfInBounds_toArray, List.set_cons_zero, List.set_cons_succ]
  refine takeY (i := 1) (x := 19) (v := .slice (some ⟨b, o + 4, none⟩) 26 (cap - 4)) rfl (by decide) (by decide) (by decide) (by kernel_rfl) (by kernel_rfl) (by kernel_rfl) (fun _ _ _ h => h) (by intro w; go_simp) ?_
  simp only [Act.put, List.setIfInBounds_toArray, List.set_cons_zero, List.set_cons_succ]
  refine takeC (i := 2) (x := 20) (v := .agg #[.int .u8 t0, .int .u8 t1, .int .u8 t2, .int .u8 t3, .int .u8 t4, .int .u8 t5]) 36 #[.slice (some ⟨b, o + 4, none⟩) 26 (cap - 4)] rfl (by decide) (by decide) (by decide) (by kernel_rfl) (by kernel_rfl) (by kernel_rfl) (fun _ _ _ h => h) (by intro w; go_simp) (fun w' k => HX4.out w' (HG1.out.trans k)) ?_
  simp only [Act.put, List.setIfInBounds_toArray, List.set_cons_zero, List.set_cons_succ]
  refine takeY (i := 3) (x := 21) (v := .slice (some ⟨b, o, none⟩) 30 cap) rfl (by decide) (by decide) (by decide) (by kernel_rfl) (by kernel_rfl) (by kernel_rfl) (fun _ _ _ h => h) (by intro w; go_simp) ?_
  simp only [Act.put, List.setIfInBounds_toArray, List.set_cons_zero, List.set_cons_succ]
  refine takeY (i := 4) (x := 22) (v := .slice (some ⟨b, o + 10, none⟩) 20 (cap - 10)) rfl (by decide) (by decide) (by decide) (by kernel_rfl) (by kernel_rfl) (by kernel_rfl) (fun _ _ _ h => h) (by intro w; go_simp) ?_
  simp only [Act.put, List.setIfInBounds_toArray, List.set_cons_zero, List.set_cons_succ]
  refine takeC (i := 5) (x := 23) (v := .agg #[.int .u8 f0, .int .u8 f1, .int .u8 f2, .int .u8 f3, .int .u8 f4, .int .u8 f5]) 36 #[.slice (some ⟨b, o + 10, none⟩) 20 (cap - 10)] rfl (by decide) (by decide) (by decide) (by kernel_rfl) (by kernel_rfl) (by kernel_rfl) (fun _ _ _ h => h) (by intro w; go_simp) (fun w' k => HX10.out w' (HG1.out.trans k)) ?_
  simp only [Act.put, List.setIfInBounds_toArray, List.set_cons_zero, List.set_cons_succ]
  refine takeY (i := 6) (x := 24) (v := .slice (some ⟨b, o, none⟩) 30 cap) rfl (by decide) (by decide) (by decide) (by kernel_rfl) (by kernel_rfl) (by kernel_rfl) (fun _ _ _ h => h) (by intro w; go_simp) ?_
  simp only [Act.put, List.setIfInBounds_toArray, List.set_cons_zero, List.set_cons_succ]
  refine takeY (i := 7) (x := 25) (v := .slice (some ⟨b, o + 16, none⟩) 14 (cap - 16)) rfl (by decide) (by decide) (by decide) (by kernel_rfl) (by kernel_rfl) (by kernel_rfl) (fun _ _ _ h => h) (by intro w; go_simp) ?_
  simp only [Act.put, List.setIfInBounds_toArray, List.set_cons_zero, List.set_cons_succ]
  refine takeC (i := 8) (x := 26) (v := .agg #[.int .u8 s0, .int .u8 s1, .int .u8 s2, .int .u8 s3, .int .u8 s4, .int .u8 s5]) 36 #[.slice (some ⟨b, o + 16, none⟩) 14 (cap - 16)] rfl (by decide) (by decide) (by decide) (by kernel_rfl) (by kernel_rfl) (by kernel_rfl) (fun _ _ _ h => h) (by intro w; go_simp) (fun w' k => HX16.out w' (HG1.out.trans k)) ?_
  simp only [Act.put, List.setIfInBounds_toArray, List.set_cons_zero, List.set_cons_succ]
  refine takeY (i := 9) (x := 27) (v := .int .i64 m26) rfl (by decide) (by decide) (by decide) (by kernel_rfl) (by kernel_rfl) (by kernel_rfl) (fun _ _ _ h => h) (by intro w; go_simp) ?_
  simp only [Act.put, List.setIfInBounds_toArray, List.set_cons_zero, List.set_cons_succ]
  refine takeY (i := 10) (x := 28) (v := .int .i64 TT) rfl (by decide) (by decide) (by decide) (by kernel_rfl) (by kernel_rfl) (by kernel_rfl) (fun _ _ _ h => h) (by intro w; go_simp) ?_
  simp only [Act.put, List.setIfInBounds_toArray, List.set_cons_zero, List.set_cons_succ]
  refine takeY (i := 11) (x := 29) (v := .int .i64 m26) rfl (by decide) (by decide) (by decide) (by kernel_rfl) (by kernel_rfl) (by kernel_rfl) (fun _ _ _ h => h) (by intro w; go_simp) ?_
  simp only [Act.put, List.setIfInBounds_toArray, List.set_cons_zero, List.set_cons_succ]
  refine takeY (i := 12) (x := 30) (v := .int .i64 (bits .and .i64 m26 2048)) rfl (by decide) (by decide) (by decide) (by kernel_rfl) (by kernel_rfl) (by kernel_rfl) (fun _ _ _ h => h) (by intro w; go_simp) ?_
  simp only [Act.put, List.setIfInBounds_toArray, List.set_cons_zero, List.set_cons_succ]
  refine takeY (i := 13) (x := 31) (v := .bool MB) rfl (by decide) (by decide) (by decide) (by kernel_rfl) (by kernel_rfl) (by kernel_rfl) (fun _ _ _ h => h) (by intro w; go_simp) ?_
  simp only [Act.put, List.setIfInBounds_toArray, List.set_cons_zero, List.set_cons_succ]
  refine takeY (i := 14) (x := 32) (v := .slice (some ⟨b, o, none⟩) 30 cap) rfl (by decide) (by decide) (by decide) (by kernel_rfl) (by kernel_rfl) (by kernel_rfl) (fun _ _ _ h => h) (by intro w; go_simp) ?_
  simp only [Act.put, List.setIfInBounds_toArray, List.set_cons_zero, List.set_cons_succ]
  refine takeY (i := 15) (x := 33) (v := .slice (some ⟨b, o + 28, none⟩) 2 (cap - 28)) rfl (by decide) (by decide) (by decide) (by kernel_rfl) (by kernel_rfl) (by kernel_rfl) (fun _ _ _ h => h) (by intro w; go_simp) ?_
  simp only [Act.put, List.setIfInBounds_toArray, List.set_cons_zero, List.set_cons_succ]
  refine takeC (i := 16) (x := 34) (v := .int .i64 m28) 37 #[.slice (some ⟨b, o + 28, none⟩) 2 (cap - 28)] rfl (by decide) (by decide) (by decide) (by kernel_rfl) (by kernel_rfl) (by kernel_rfl) (fun _ _ _ h => h) (by intro w; go_simp) (fun w' k => HN28.out w' (HG1.out.trans k)) ?_
  simp only [Act.put, List.setIfInBounds_toArray, List.set_cons_zero, List.set_cons_succ]
  refine takeY (i := 17) (x := 35) (v := .agg #[.int .u8 t0, .int .u8 t1, .int .u8 t2, .int .u8 t3, .int .u8 t4, .int .u8 t5, .int .u8 f0, .int .u8 f1, .int .u8 f2, .int .u8 f3, .int .u8 f4, .int .u8 f5, .int .u8 s0, .int .u8 s1, .int .u8 s2, .int .u8 s3, .int .u8 s4, .int .u8 s5, .bool MB, .int .i64 TT, .int .i64 m28]) rfl (by decide) (by decide) (by decide) (by kernel_rfl) (by kernel_rfl) (by kernel_rfl) (fun _ _ _ h => h) (by intro w; go_simp) ?_
  simp only [Act.put, List.setIfInBounds_toArray, List.set_cons_zero, List.set_cons_succ]
  refine takeA rfl (by kernel_rfl) (by decide) (by kernel_rfl) (by simp) (by intro w; go_simp) ?_
  intro g hge
  simp only [Act.put, List.setIfInBounds_toArray, List.set_cons_zero, List.set_cons_succ]
  refine takeST (g := g) rfl (by kernel_rfl) (by decide) (by kernel_rfl) (by kernel_rfl) (by decide) rfl rfl rfl rfl (by kernel_rfl) (by simp [Value.oneCell']) (by kernel_rfl) ?_
  intro w3 hg3 _ hrow
  have HG := Lib.hid hg3
  have HROW := Lib.hid hrow
  clear hg3 hrow HX4 HX10 HX16 HN28 hmine
  go_wp2_with (refine load_row rfl _ _ rfl _ rfl _ _ HROW.out _ Tryd.underlying36 rfl (by kernel_rfl) ?_)
  by_cases hok : okD TT m28
  · have HQ := Lib.hid (rdel_any ⟨t0, t1, t2, t3, t4, t5⟩ ⟨f0, f1, f2, f3, f4, f5⟩ ⟨s0, s1, s2, s3, s4, s5⟩ MB TT m28 w3 hok)
    unfold delV at HQ
    simp only at HQ
    generalize hY : delL ⟨t0, t1, t2, t3, t4, t5⟩ ⟨f0, f1, f2, f3, f4, f5⟩ ⟨s0, s1, s2, s3, s4, s5⟩ MB TT m28 = Y at HQ
    have HY := Lib.hid hY
    clear hY
    go_wp2_with fail
    refine HQ.out.mono ?_
    rintro e wX ⟨v, rfl, hgX, hoX⟩
    obtain ⟨q, d, rfl, -, hlY, -⟩ := hoX.lie
    have HROW := Lib.hid ((hgX.block g (blk_in HROW.out) (by simp)).trans HROW.out)
    have HG := Lib.hid (HG.out.trans hgX)
    have HQ2 := Lib.hid (HSB.out wX (HG1.out.trans HG.out) q d Y hlY)
    have HYB : Hid (P ↔ Y = bs) := ⟨fun h => HY.out ▸ (HP.out.1 h).2, fun h => HP.out.2 ⟨hok, HY.out ▸ h⟩⟩
    clear hoX hlY HQ HY HSB hgX
    generalize Y.length = ny at *
    go_wp2_with fail
    refine HQ2.out.mono ?_
    rintro e w' ⟨rfl, hg⟩
    have HROW := Lib.hid ((hg.block g (blk_in HROW.out) (by simp)).trans HROW.out)
    have HG := Lib.hid (HG.out.trans hg)
    clear hg HQ2
    have hzX := HZ.out _ HG.out
    by_cases heq : bs = Y
    · rw [decide_eq_true heq]
      have hPP : P := HYB.out.2 heq.symm
      clear heq HYB hok
      go_wp2_with (first | (refine load_row rfl _ _ rfl _ rfl _ _ HROW.out _ Tryd.underlying36 rfl (by kernel_rfl) ?_) | (refine store_row rfl 36 _ _ rfl w.heap.size rfl #[.int .u8 t0, .int .u8 t1, .int .u8 t2, .int .u8 t3, .int .u8 t4, .int .u8 t5, .int .u8 f0, .int .u8 f1, .int .u8 f2, .int .u8 f3, .int .u8 f4, .int .u8 f5, .int .u8 s0, .int .u8 s1, .int .u8 s2, .int .u8 s3, .int .u8 s4, .int .u8 s5, .bool MB, .int .i64 TT, .int .i64 m28] (by rfl) #[.int .u8 0, .int .u8 0, .int .u8 0, .int .u8 0, .int .u8 0, .int .u8 0, .int .u8 0, .int .u8 0, .int .u8 0, .int .u8 0, .int .u8 0, .int .u8 0, .int .u8 0, .int .u8 0, .int .u8 0, .int .u8 0, .int .u8 0, .int .u8 0, .bool false, .int .i64 0, .int .i64 0] 36 hzX rfl (by kernel_rfl) (by simp [Value.oneCell']) ?_))
      intro w6 hg6 hr6
      have HF := Lib.hid ((HG1.out.trans HG.out).new_row hg6 (Nat.le_refl _))
      have HR6 := Lib.hid hr6
      clear hg6 hzX hr6
      (try go_wp2_with fail)
      (try simp only [Exit.inBlock, Exit.then])
      refine bodyPost_ret (res_rdel rfl rfl HR6.out (by kernel_rfl)) rfl ?_
      exact ⟨fun _ => rfl, fun h => absurd hPP h, HF.out⟩
    · rw [decide_eq_false heq]
      have hnP : ¬ P := fun h => heq (HYB.out.1 h).symm
      clear heq HYB hok
      go_wp2_with (refine store_row rfl 36 _ _ rfl w.heap.size rfl #[.int .u8 0, .int .u8 0, .int .u8 0, .int .u8 0, .int .u8 0, .int .u8 0, .int .u8 0, .int .u8 0, .int .u8 0, .int .u8 0, .int .u8 0, .int .u8 0, .int .u8 0, .int .u8 0, .int .u8 0, .int .u8 0, .int .u8 0, .int .u8 0, .bool false, .int .i64 0, .int .i64 0] (by rfl) #[.int .u8 0, .int .u8 0, .int .u8 0, .int .u8 0, .int .u8 0, .int .u8 0, .int .u8 0, .int .u8 0, .int .u8 0, .int .u8 0, .int .u8 0, .int .u8 0, .int .u8 0, .int .u8 0, .int .u8 0, .int .u8 0, .int .u8 0, .int .u8 0, .bool false, .int .i64 0, .int .i64 0] 36 hzX rfl (by kernel_rfl) (by simp [Value.oneCell']) ?_)
      intro w6 hg6 hr6
      have HF := Lib.hid ((HG1.out.trans HG.out).new_row hg6 (Nat.le_refl _))
      have HR6 := Lib.hid hr6
      clear hg6 hzX hr6
      (try go_wp2_with fail)
      (try simp only [Exit.inBlock, Exit.then])
      refine bodyPost_ret (res_rdel rfl rfl HR6.out (by kernel_rfl)) rfl ?_
      exact ⟨fun h => absurd h hnP, fun _ => rfl, HF.out⟩
  · have HQ := Lib.hid (rdel_bad ⟨t0, t1, t2, t3, t4, t5⟩ ⟨f0, f1, f2, f3, f4, f5⟩ ⟨s0, s1, s2, s3, s4, s5⟩ MB TT m28 w3 hok)
    unfold delV at HQ
    simp only at HQ
    have hnP : ¬ P := fun h => hok (HP.out.1 h).1
    clear hok HSB
    go_wp2_with fail
    refine HQ.out.mono ?_
    rintro e wX ⟨rfl, hgX⟩
    have HG := Lib.hid (HG.out.trans hgX)
    have hzX := HZ.out _ HG.out
    clear hgX HQ
    go_wp2_with (refine store_row rfl 36 _ _ rfl w.heap.size rfl #[.int .u8 0, .int .u8 0, .int .u8 0, .int .u8 0, .int .u8 0, .int .u8 0, .int .u8 0, .int .u8 0, .int .u8 0, .int .u8 0, .int .u8 0, .int .u8 0, .int .u8 0, .int .u8 0, .int .u8 0, .int .u8 0, .int .u8 0, .int .u8 0, .bool false, .int .i64 0, .int .i64 0] (by rfl) #[.int .u8 0, .int .u8 0, .int .u8 0, .int .u8 0, .int .u8 0, .int .u8 0, .int .u8 0, .int .u8 0, .int .u8 0, .int .u8 0, .int .u8 0, .int .u8 0, .int .u8 0, .int .u8 0, .int .u8 0, .int .u8 0, .int .u8 0, .int .u8 0, .bool false, .int .i64 0, .int .i64 0] 36 hzX rfl (by kernel_rfl) (by simp [Value.oneCell']) ?_)
    intro w6 hg6 hr6
    have HF := Lib.hid ((HG1.out.trans HG.out).new_row hg6 (Nat.le_refl _))
    have HR6 := Lib.hid hr6
    clear hg6 hzX hr6
    (try go_wp2_with fail)
    (try simp only [Exit.inBlock, Exit.then])
    refine bodyPost_ret (res_rdel rfl rfl HR6.out (by kernel_rfl)) rfl ?_
    exact ⟨fun h => absurd h hnP, fun _ => rfl, HF.out⟩

/-- The document's reading of any bytes, in one form: the same words as the code's. -/
theorem rreadAdd_say (p : Option Addr) (cap : Nat) (bs : List Int) (w : World) (hcap : bs.length ≤ cap) (hlen : bs.length ≤ 100000) (h : Lie w p bs) (hb : Bytes bs) :
    Calls Tryd.prog 17 #[.slice p bs.length cap] w fun e w' => (longA bs 33 (kAdd bs) = 0 → isAdd bs → e = .returned (.tuple #[addOf bs, .int .i64 0])) ∧ (longA bs 33 (kAdd bs) = 0 → ¬ isAdd bs → e = .returned (.tuple #[addV adZ adZ adZ false 0 0 0 0 0 0, .int .i64 102])) ∧ (longA bs 33 (kAdd bs) ≠ 0 → e = .returned (.tuple #[addV adZ adZ adZ false 0 0 0 0 0 0, .int .i64 (codeOf (longA bs 33 (kAdd bs)))])) ∧ Gro none w w' := by
  by_cases hr : longA bs 33 (kAdd bs) = 0
  · obtain ⟨hlen, hk⟩ := longA_zero hr (by decide)
    obtain ⟨b, o, rfl, -⟩ := h 0 (by omega)
    rcases hk.2.2 with hy | hy
    · exact (raddR_asks b o cap bs w hcap h hb hr hy).mono fun e w' ⟨h1, h2, hg⟩ => ⟨fun _ => h1, fun _ => h2, fun h => absurd hr h, hg⟩
    · exact (raddR_ans b o cap bs w hcap h hb hr hy).mono fun e w' ⟨h1, h2, hg⟩ => ⟨fun _ => h1, fun _ => h2, fun h => absurd hr h, hg⟩
  · exact (raddR_bad p cap bs hlen w h hr).mono fun e w' ⟨h1, hg⟩ => ⟨fun h => absurd h hr, fun h => absurd h hr, fun _ => h1, hg⟩
theorem rreadDel_say (p : Option Addr) (cap : Nat) (bs : List Int) (w : World) (hcap : bs.length ≤ cap) (hlen : bs.length ≤ 100000) (h : Lie w p bs) (hb : Bytes bs) :
    Calls Tryd.prog 18 #[.slice p bs.length cap] w fun e w' => (longA bs 30 (kDel bs) = 0 → isDel bs → e = .returned (.tuple #[delV (ad6 bs 4) (ad6 bs 10) (ad6 bs 16) (mineOf bs) (num2 bs 26 / 4096) (num2 bs 28), .int .i64 0])) ∧ (longA bs 30 (kDel bs) = 0 → ¬ isDel bs → e = .returned (.tuple #[delV adZ adZ adZ false 0 0, .int .i64 102])) ∧ (longA bs 30 (kDel bs) ≠ 0 → e = .returned (.tuple #[delV adZ adZ adZ false 0 0, .int .i64 (codeOf (longA bs 30 (kDel bs)))])) ∧ Gro none w w' := by
  by_cases hr : longA bs 30 (kDel bs) = 0
  · obtain ⟨hlen, hk⟩ := longA_zero hr (by decide)
    obtain ⟨b, o, rfl, -⟩ := h 0 (by omega)
    exact (rdelR_main b o cap bs w hcap h hb hr).mono fun e w' ⟨h1, h2, hg⟩ => ⟨fun _ => h1, fun _ => h2, fun h => absurd hr h, hg⟩
  · exact (rdelR_bad p cap bs hlen w h hr).mono fun e w' ⟨h1, hg⟩ => ⟨fun h => absurd h hr, fun h => absurd h hr, fun _ => h1, hg⟩
end Go.Proofs.YtflckkeaakmojaaDoor
