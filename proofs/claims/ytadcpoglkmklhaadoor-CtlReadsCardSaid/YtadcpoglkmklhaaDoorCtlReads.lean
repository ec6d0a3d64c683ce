/-
  THE WALK OF CtlReads: any bytes as each control frame, or why they are none, and their kind, are what the chapter says; it answers true. No condition but the fourteen sentinels' own ('Sent') and that the bytes lie where the slice says.
-/
import Derived.Test.YtadcpoglkmklhaaDoorRefBar
import Derived.Test.YtadcpoglkmklhaaDoorRefAck
import Derived.Test.YtadcpoglkmklhaaDoorRefPoll
import Derived.Test.YtadcpoglkmklhaaDoorCtlSelf
import Derived.Test.YtadcpoglkmklhaaDoorFrame
namespace Go.Proofs.YtadcpoglkmklhaaDoor
open Go.RowKit

theorem codeOf_ne {k : Nat} (h : k = 5 ∨ k = 1 ∨ k = 2) : codeOf k ≠ 0 := by rcases h with rfl | rfl | rfl <;> decide
theorem longR_is (bs : List Int) (kind : Int) (n : Nat) (h : longR bs kind n ≠ 0) : longR bs kind n = 5 ∨ longR bs kind n = 1 ∨ longR bs kind n = 2 := by
  unfold longR at *
  split
  · exact .inl rfl
  · split
    · exact .inr (.inl rfl)
    · split
      · exact .inr (.inr rfl)
      · rename_i h1 h2 h3
        rw [if_neg h1, if_neg h2, if_neg h3] at h
        exact absurd rfl h

set_option maxHeartbeats 4000000 in
set_option maxRecDepth 100000 in
theorem refReadBar_bad (p : Option Addr) (cap : Nat) (bs : List Int) (w : World) (h : Lie w p bs) (hr : longR bs 132 20 ≠ 0) :
    Calls Tryd.prog 22 #[.slice p bs.length cap] w fun e w' => e = .returned (.tuple #[barV adZ adZ 0 0, .int .i64 (codeOf (longR bs 132 20))]) ∧ Gro none w w' := by
  have HL := Lib.hid (fun w' (k : Gro none w w') => rkind_any p cap bs 132 20 w' (by decide) (h.gro k (by simp)) (by decide))
  have hc : codeOf (longR bs 132 20) ≠ 0 := codeOf_ne (longR_is _ _ _ hr)
  generalize codeOf (longR bs 132 20) = c at *
  generalize bs.length = len at *
  have hc1 : (c == 0) = false := by simpa using hc
  have hc2 : (c != 0) = true := by simpa using hc
  clear hr h
  unfold barV adZ
  simp only
  go_enter Tryd.func22, Tryd.ntmps22
  go_wp2_with fail
  refine (HL.out _ ((Gro.refl _ _).alloc _)).mono ?_
  rintro e w4 ⟨rfl, rfl⟩
  have hg1 : Gro none w (w.alloc (.cells #[.int .u8 0, .int .u8 0, .int .u8 0, .int .u8 0, .int .u8 0, .int .u8 0, .int .u8 0, .int .u8 0, .int .u8 0, .int .u8 0, .int .u8 0, .int .u8 0, .int .i64 0, .int .i64 0] 25)) := (Gro.refl _ _).alloc _
  have hz : ∀ w', Gro none (w.alloc (.cells #[.int .u8 0, .int .u8 0, .int .u8 0, .int .u8 0, .int .u8 0, .int .u8 0, .int .u8 0, .int .u8 0, .int .u8 0, .int .u8 0, .int .u8 0, .int .u8 0, .int .i64 0, .int .i64 0] 25)) w' → w'.heap[w.heap.size]? = some (.cells #[.int .u8 0, .int .u8 0, .int .u8 0, .int .u8 0, .int .u8 0, .int .u8 0, .int .u8 0, .int .u8 0, .int .u8 0, .int .u8 0, .int .u8 0, .int .u8 0, .int .i64 0, .int .i64 0] 25 (0, 0)) := fun w' k => (k.block w.heap.size (by simp) (by simp)).trans (heap_alloc_new w (.cells #[.int .u8 0, .int .u8 0, .int .u8 0, .int .u8 0, .int .u8 0, .int .u8 0, .int .u8 0, .int .u8 0, .int .u8 0, .int .u8 0, .int .u8 0, .int .u8 0, .int .i64 0, .int .i64 0] 25))
  have hws : w.heap.size < (w.alloc (.cells #[.int .u8 0, .int .u8 0, .int .u8 0, .int .u8 0, .int .u8 0, .int .u8 0, .int .u8 0, .int .u8 0, .int .u8 0, .int .u8 0, .int .u8 0, .int .u8 0, .int .i64 0, .int .i64 0] 25)).heap.size := by simp
  generalize w.alloc (.cells #[.int .u8 0, .int .u8 0, .int .u8 0, .int .u8 0, .int .u8 0, .int .u8 0, .int .u8 0, .int .u8 0, .int .u8 0, .int .u8 0, .int .u8 0, .int .u8 0, .int .i64 0, .int .i64 0] 25) = w1 at *
  have HG1 := Lib.hid hg1
  have HZ := Lib.hid hz
  have HGX := Lib.hid (Gro.refl none w1)
  clear hg1 hz HL
  obtain ⟨w4, rfl⟩ : ∃ v, v = w1 := ⟨_, rfl⟩
  have hzX := HZ.out _ HGX.out
  have hf : ∀ j, w4.frozen? ⟨w.heap.size, j, none⟩ = false := fun j => frozen_of_row w4 w.heap.size j _ _ hzX
  have HZX := Lib.hid hzX
  have z0 := cell_of_row w4 w.heap.size 0 _ _ _ hzX
  have z1 := cell_of_row w4 w.heap.size 1 _ _ _ hzX
  have z2 := cell_of_row w4 w.heap.size 2 _ _ _ hzX
  have z3 := cell_of_row w4 w.heap.size 3 _ _ _ hzX
  have z4 := cell_of_row w4 w.heap.size 4 _ _ _ hzX
  have z5 := cell_of_row w4 w.heap.size 5 _ _ _ hzX
  have z6 := cell_of_row w4 w.heap.size 6 _ _ _ hzX
  have z7 := cell_of_row w4 w.heap.size 7 _ _ _ hzX
  have z8 := cell_of_row w4 w.heap.size 8 _ _ _ hzX
  have z9 := cell_of_row w4 w.heap.size 9 _ _ _ hzX
  have z10 := cell_of_row w4 w.heap.size 10 _ _ _ hzX
  have z11 := cell_of_row w4 w.heap.size 11 _ _ _ hzX
  have z12 := cell_of_row w4 w.heap.size 12 _ _ _ hzX
  have z13 := cell_of_row w4 w.heap.size 13 _ _ _ hzX
  simp only [List.getElem?_toArray, List.getElem?_cons_zero, List.getElem?_cons_succ] at z0 z1 z2 z3 z4 z5 z6 z7 z8 z9 z10 z11 z12 z13
  clear hzX
  go_wp2_with fail
  clear hf
  refine gen_world (fun W' => Gro (some w.heap.size) w4 W' ∧ W'.heap[w.heap.size]? = some (.cells #[.int .u8 0, .int .u8 0, .int .u8 0, .int .u8 0, .int .u8 0, .int .u8 0, .int .u8 0, .int .u8 0, .int .u8 0, .int .u8 0, .int .u8 0, .int .u8 0, .int .i64 0, .int .i64 0] 25 (0, 0))) ⟨?_, ?_⟩ ?_
  · repeat (first | with_reducible exact Gro.refl _ _ | with_reducible refine Gro.drew ?_ | with_reducible refine Gro.setCell ?_ _ _)
  · (try rw [heap_of_drew])
    with_reducible refine store14 _ _ _ (.int .u8 0) (.int .u8 0) (.int .u8 0) (.int .u8 0) (.int .u8 0) (.int .u8 0) (.int .u8 0) (.int .u8 0) (.int .u8 0) (.int .u8 0) (.int .u8 0) (.int .u8 0) (.int .i64 0) (.int .i64 0) _ _ _ _ _ _ _ _ _ _ _ _ _ _ HZX.out
  clear z0 z1 z2 z3 z4 z5 z6 z7 z8 z9 z10 z11 z12 z13
  rintro w6 ⟨hg6, hz6⟩
  have d0 := cell_of_row w6 w.heap.size 0 _ _ _ hz6
  have d1 := cell_of_row w6 w.heap.size 1 _ _ _ hz6
  have d2 := cell_of_row w6 w.heap.size 2 _ _ _ hz6
  have d3 := cell_of_row w6 w.heap.size 3 _ _ _ hz6
  have d4 := cell_of_row w6 w.heap.size 4 _ _ _ hz6
  have d5 := cell_of_row w6 w.heap.size 5 _ _ _ hz6
  have d6 := cell_of_row w6 w.heap.size 6 _ _ _ hz6
  have d7 := cell_of_row w6 w.heap.size 7 _ _ _ hz6
  have d8 := cell_of_row w6 w.heap.size 8 _ _ _ hz6
  have d9 := cell_of_row w6 w.heap.size 9 _ _ _ hz6
  have d10 := cell_of_row w6 w.heap.size 10 _ _ _ hz6
  have d11 := cell_of_row w6 w.heap.size 11 _ _ _ hz6
  have d12 := cell_of_row w6 w.heap.size 12 _ _ _ hz6
  have d13 := cell_of_row w6 w.heap.size 13 _ _ _ hz6
  simp only [List.getElem?_toArray, List.getElem?_cons_zero, List.getElem?_cons_succ] at d0 d1 d2 d3 d4 d5 d6 d7 d8 d9 d10 d11 d12 d13
  have HG6 := Lib.hid hg6
  clear hg6 hz6
  (try go_wp2_with fail)
  (try simp only [Exit.inBlock, Exit.then])
  refine bodyPost_ret (by simp [results, Tryd.results22, go_sem, d0, d1, d2, d3, d4, d5, d6, d7, d8, d9, d10, d11, d12, d13]; try rfl) rfl ?_
  refine ⟨rfl, ?_⟩
  have h1 := HG1.out.trans HGX.out
  have h6 := HG6.out
  exact ⟨h6.os.trans h1.os, h6.output.trans h1.output, Nat.le_trans h1.size h6.size, fun k hk _ => (h6.block k (Nat.lt_of_lt_of_le hk h1.size) (by simp; omega)).trans (h1.block k hk (by simp))⟩

set_option maxHeartbeats 4000000 in
set_option maxRecDepth 100000 in
theorem refReadAck_bad (p : Option Addr) (cap : Nat) (bs : List Int) (w : World) (h : Lie w p bs) (hr : longR bs 148 28 ≠ 0) :
    Calls Tryd.prog 23 #[.slice p bs.length cap] w fun e w' => e = .returned (.tuple #[ackV adZ adZ 0 0 0, .int .i64 (codeOf (longR bs 148 28))]) ∧ Gro none w w' := by
  have HL := Lib.hid (fun w' (k : Gro none w w') => rkind_any p cap bs 148 28 w' (by decide) (h.gro k (by simp)) (by decide))
  have hc : codeOf (longR bs 148 28) ≠ 0 := codeOf_ne (longR_is _ _ _ hr)
  generalize codeOf (longR bs 148 28) = c at *
  generalize bs.length = len at *
  have hc1 : (c == 0) = false := by simpa using hc
  have hc2 : (c != 0) = true := by simpa using hc
  clear hr h
  unfold ackV adZ
  simp only
  go_enter Tryd.func23, Tryd.ntmps23
  go_wp2_with fail
  refine (HL.out _ ((Gro.refl _ _).alloc _)).mono ?_
  rintro e w4 ⟨rfl, rfl⟩
  have hg1 : Gro none w (w.alloc (.cells #[.int .u8 0, .int .u8 0, .int .u8 0, .int .u8 0, .int .u8 0, .int .u8 0, .int .u8 0, .int .u8 0, .int .u8 0, .int .u8 0, .int .u8 0, .int .u8 0, .int .i64 0, .int .i64 0, .int .u64 0] 28)) := (Gro.refl _ _).alloc _
  have hz : ∀ w', Gro none (w.alloc (.cells #[.int .u8 0, .int .u8 0, .int .u8 0, .int .u8 0, .int .u8 0, .int .u8 0, .int .u8 0, .int .u8 0, .int .u8 0, .int .u8 0, .int .u8 0, .int .u8 0, .int .i64 0, .int .i64 0, .int .u64 0] 28)) w' → w'.heap[w.heap.size]? = some (.cells #[.int .u8 0, .int .u8 0, .int .u8 0, .int .u8 0, .int .u8 0, .int .u8 0, .int .u8 0, .int .u8 0, .int .u8 0, .int .u8 0, .int .u8 0, .int .u8 0, .int .i64 0, .int .i64 0, .int .u64 0] 28 (0, 0)) := fun w' k => (k.block w.heap.size (by simp) (by simp)).trans (heap_alloc_new w (.cells #[.int .u8 0, .int .u8 0, .int .u8 0, .int .u8 0, .int .u8 0, .int .u8 0, .int .u8 0, .int .u8 0, .int .u8 0, .int .u8 0, .int .u8 0, .int .u8 0, .int .i64 0, .int .i64 0, .int .u64 0] 28))
  have hws : w.heap.size < (w.alloc (.cells #[.int .u8 0, .int .u8 0, .int .u8 0, .int .u8 0, .int .u8 0, .int .u8 0, .int .u8 0, .int .u8 0, .int .u8 0, .int .u8 0, .int .u8 0, .int .u8 0, .int .i64 0, .int .i64 0, .int .u64 0] 28)).heap.size := by simp
  generalize w.alloc (.cells #[.int .u8 0, .int .u8 0, .int .u8 0, .int .u8 0, .int .u8 0, .int .u8 0, .int .u8 0, .int .u8 0, .int .u8 0, .int .u8 0, .int .u8 0, .int .u8 0, .int .i64 0, .int .i64 0, .int .u64 0] 28) = w1 at *
  have HG1 := Lib.hid hg1
  have HZ := Lib.hid hz
  have HGX := Lib.hid (Gro.refl none w1)
  clear hg1 hz HL
  obtain ⟨w4, rfl⟩ : ∃ v, v = w1 := ⟨_, rfl⟩
  have hzX := HZ.out _ HGX.out
  have hf : ∀ j, w4.frozen? ⟨w.heap.size, j, none⟩ = false := fun j => frozen_of_row w4 w.heap.size j _ _ hzX
  have HZX := Lib.hid hzX
  have z0 := cell_of_row w4 w.heap.size 0 _ _ _ hzX
  have z1 := cell_of_row w4 w.heap.size 1 _ _ _ hzX
  have z2 := cell_of_row w4 w.heap.size 2 _ _ _ hzX
  have z3 := cell_of_row w4 w.heap.size 3 _ _ _ hzX
  have z4 := cell_of_row w4 w.heap.size 4 _ _ _ hzX
  have z5 := cell_of_row w4 w.heap.size 5 _ _ _ hzX
  have z6 := cell_of_row w4 w.heap.size 6 _ _ _ hzX
  have z7 := cell_of_row w4 w.heap.size 7 _ _ _ hzX
  have z8 := cell_of_row w4 w.heap.size 8 _ _ _ hzX
  have z9 := cell_of_row w4 w.heap.size 9 _ _ _ hzX
  have z10 := cell_of_row w4 w.heap.size 10 _ _ _ hzX
  have z11 := cell_of_row w4 w.heap.size 11 _ _ _ hzX
  have z12 := cell_of_row w4 w.heap.size 12 _ _ _ hzX
  have z13 := cell_of_row w4 w.heap.size 13 _ _ _ hzX
  have z14 := cell_of_row w4 w.heap.size 14 _ _ _ hzX
  simp only [List.getElem?_toArray, List.getElem?_cons_zero, List.getElem?_cons_succ] at z0 z1 z2 z3 z4 z5 z6 z7 z8 z9 z10 z11 z12 z13 z14
  clear hzX
  go_wp2_with fail
  clear hf
  refine gen_world (fun W' => Gro (some w.heap.size) w4 W' ∧ W'.heap[w.heap.size]? = some (.cells #[.int .u8 0, .int .u8 0, .int .u8 0, .int .u8 0, .int .u8 0, .int .u8 0, .int .u8 0, .int .u8 0, .int .u8 0, .int .u8 0, .int .u8 0, .int .u8 0, .int .i64 0, .int .i64 0, .int .u64 0] 28 (0, 0))) ⟨?_, ?_⟩ ?_
  · repeat (first | with_reducible exact Gro.refl _ _ | with_reducible refine Gro.drew ?_ | with_reducible refine Gro.setCell ?_ _ _)
  · (try rw [heap_of_drew])
    with_reducible refine store15 _ _ _ (.int .u8 0) (.int .u8 0) (.int .u8 0) (.int .u8 0) (.int .u8 0) (.int .u8 0) (.int .u8 0) (.int .u8 0) (.int .u8 0) (.int .u8 0) (.int .u8 0) (.int .u8 0) (.int .i64 0) (.int .i64 0) (.int .u64 0) _ _ _ _ _ _ _ _ _ _ _ _ _ _ _ HZX.out
  clear z0 z1 z2 z3 z4 z5 z6 z7 z8 z9 z10 z11 z12 z13 z14
  rintro w6 ⟨hg6, hz6⟩
  have d0 := cell_of_row w6 w.heap.size 0 _ _ _ hz6
  have d1 := cell_of_row w6 w.heap.size 1 _ _ _ hz6
  have d2 := cell_of_row w6 w.heap.size 2 _ _ _ hz6
  have d3 := cell_of_row w6 w.heap.size 3 _ _ _ hz6
  have d4 := cell_of_row w6 w.heap.size 4 _ _ _ hz6
  have d5 := cell_of_row w6 w.heap.size 5 _ _ _ hz6
  have d6 := cell_of_row w6 w.heap.size 6 _ _ _ hz6
  have d7 := cell_of_row w6 w.heap.size 7 _ _ _ hz6
  have d8 := cell_of_row w6 w.heap.size 8 _ _ _ hz6
  have d9 := cell_of_row w6 w.heap.size 9 _ _ _ hz6
  have d10 := cell_of_row w6 w.heap.size 10 _ _ _ hz6
  have d11 := cell_of_row w6 w.heap.size 11 _ _ _ hz6
  have d12 := cell_of_row w6 w.heap.size 12 _ _ _ hz6
  have d13 := cell_of_row w6 w.heap.size 13 _ _ _ hz6
  have d14 := cell_of_row w6 w.heap.size 14 _ _ _ hz6
  simp only [List.getElem?_toArray, List.getElem?_cons_zero, List.getElem?_cons_succ] at d0 d1 d2 d3 d4 d5 d6 d7 d8 d9 d10 d11 d12 d13 d14
  have HG6 := Lib.hid hg6
  clear hg6 hz6
  (try go_wp2_with fail)
  (try simp only [Exit.inBlock, Exit.then])
  refine bodyPost_ret (by simp [results, Tryd.results23, go_sem, d0, d1, d2, d3, d4, d5, d6, d7, d8, d9, d10, d11, d12, d13, d14]; try rfl) rfl ?_
  refine ⟨rfl, ?_⟩
  have h1 := HG1.out.trans HGX.out
  have h6 := HG6.out
  exact ⟨h6.os.trans h1.os, h6.output.trans h1.output, Nat.le_trans h1.size h6.size, fun k hk _ => (h6.block k (Nat.lt_of_lt_of_le hk h1.size) (by simp; omega)).trans (h1.block k hk (by simp))⟩

set_option maxHeartbeats 4000000 in
set_option maxRecDepth 100000 in
theorem refReadPoll_bad (p : Option Addr) (cap : Nat) (bs : List Int) (w : World) (h : Lie w p bs) (hr : longR bs 164 16 ≠ 0) :
    Calls Tryd.prog 24 #[.slice p bs.length cap] w fun e w' => e = .returned (.tuple #[pollV 0 adZ adZ, .int .i64 (codeOf (longR bs 164 16))]) ∧ Gro none w w' := by
  have HL := Lib.hid (fun w' (k : Gro none w w') => rkind_any p cap bs 164 16 w' (by decide) (h.gro k (by simp)) (by decide))
  have hc : codeOf (longR bs 164 16) ≠ 0 := codeOf_ne (longR_is _ _ _ hr)
  generalize codeOf (longR bs 164 16) = c at *
  generalize bs.length = len at *
  have hc1 : (c == 0) = false := by simpa using hc
  have hc2 : (c != 0) = true := by simpa using hc
  clear hr h
  unfold pollV adZ
  simp only
  go_enter Tryd.func24, Tryd.ntmps24
  go_wp2_with fail
  refine (HL.out _ ((Gro.refl _ _).alloc _)).mono ?_
  rintro e w4 ⟨rfl, rfl⟩
  have hg1 : Gro none w (w.alloc (.cells #[.int .i64 0, .int .u8 0, .int .u8 0, .int .u8 0, .int .u8 0, .int .u8 0, .int .u8 0, .int .u8 0, .int .u8 0, .int .u8 0, .int .u8 0, .int .u8 0, .int .u8 0] 30)) := (Gro.refl _ _).alloc _
  have hz : ∀ w', Gro none (w.alloc (.cells #[.int .i64 0, .int .u8 0, .int .u8 0, .int .u8 0, .int .u8 0, .int .u8 0, .int .u8 0, .int .u8 0, .int .u8 0, .int .u8 0, .int .u8 0, .int .u8 0, .int .u8 0] 30)) w' → w'.heap[w.heap.size]? = some (.cells #[.int .i64 0, .int .u8 0, .int .u8 0, .int .u8 0, .int .u8 0, .int .u8 0, .int .u8 0, .int .u8 0, .int .u8 0, .int .u8 0, .int .u8 0, .int .u8 0, .int .u8 0] 30 (0, 0)) := fun w' k => (k.block w.heap.size (by simp) (by simp)).trans (heap_alloc_new w (.cells #[.int .i64 0, .int .u8 0, .int .u8 0, .int .u8 0, .int .u8 0, .int .u8 0, .int .u8 0, .int .u8 0, .int .u8 0, .int .u8 0, .int .u8 0, .int .u8 0, .int .u8 0] 30))
  have hws : w.heap.size < (w.alloc (.cells #[.int .i64 0, .int .u8 0, .int .u8 0, .int .u8 0, .int .u8 0, .int .u8 0, .int .u8 0, .int .u8 0, .int .u8 0, .int .u8 0, .int .u8 0, .int .u8 0, .int .u8 0] 30)).heap.size := by simp
  generalize w.alloc (.cells #[.int .i64 0, .int .u8 0, .int .u8 0, .int .u8 0, .int .u8 0, .int .u8 0, .int .u8 0, .int .u8 0, .int .u8 0, .int .u8 0, .int .u8 0, .int .u8 0, .int .u8 0] 30) = w1 at *
  have HG1 := Lib.hid hg1
  have HZ := Lib.hid hz
  have HGX := Lib.hid (Gro.refl none w1)
  clear hg1 hz HL
  obtain ⟨w4, rfl⟩ : ∃ v, v = w1 := ⟨_, rfl⟩
  have hzX := HZ.out _ HGX.out
  have hf : ∀ j, w4.frozen? ⟨w.heap.size, j, none⟩ = false := fun j => frozen_of_row w4 w.heap.size j _ _ hzX
  have HZX := Lib.hid hzX
  have z0 := cell_of_row w4 w.heap.size 0 _ _ _ hzX
  have z1 := cell_of_row w4 w.heap.size 1 _ _ _ hzX
  have z2 := cell_of_row w4 w.heap.size 2 _ _ _ hzX
  have z3 := cell_of_row w4 w.heap.size 3 _ _ _ hzX
  have z4 := cell_of_row w4 w.heap.size 4 _ _ _ hzX
  have z5 := cell_of_row w4 w.heap.size 5 _ _ _ hzX
  have z6 := cell_of_row w4 w.heap.size 6 _ _ _ hzX
  have z7 := cell_of_row w4 w.heap.size 7 _ _ _ hzX
  have z8 := cell_of_row w4 w.heap.size 8 _ _ _ hzX
  have z9 := cell_of_row w4 w.heap.size 9 _ _ _ hzX
  have z10 := cell_of_row w4 w.heap.size 10 _ _ _ hzX
  have z11 := cell_of_row w4 w.heap.size 11 _ _ _ hzX
  have z12 := cell_of_row w4 w.heap.size 12 _ _ _ hzX
  simp only [List.getElem?_toArray, List.getElem?_cons_zero, List.getElem?_cons_succ] at z0 z1 z2 z3 z4 z5 z6 z7 z8 z9 z10 z11 z12
  clear hzX
  go_wp2_with fail
  clear hf
  refine gen_world (fun W' => Gro (some w.heap.size) w4 W' ∧ W'.heap[w.heap.size]? = some (.cells #[.int .i64 0, .int .u8 0, .int .u8 0, .int .u8 0, .int .u8 0, .int .u8 0, .int .u8 0, .int .u8 0, .int .u8 0, .int .u8 0, .int .u8 0, .int .u8 0, .int .u8 0] 30 (0, 0))) ⟨?_, ?_⟩ ?_
  · repeat (first | with_reducible exact Gro.refl _ _ | with_reducible refine Gro.drew ?_ | with_reducible refine Gro.setCell ?_ _ _)
  · (try rw [heap_of_drew])
    with_reducible refine store13 _ _ _ (.int .i64 0) (.int .u8 0) (.int .u8 0) (.int .u8 0) (.int .u8 0) (.int .u8 0) (.int .u8 0) (.int .u8 0) (.int .u8 0) (.int .u8 0) (.int .u8 0) (.int .u8 0) (.int .u8 0) _ _ _ _ _ _ _ _ _ _ _ _ _ HZX.out
  clear z0 z1 z2 z3 z4 z5 z6 z7 z8 z9 z10 z11 z12
  rintro w6 ⟨hg6, hz6⟩
  have d0 := cell_of_row w6 w.heap.size 0 _ _ _ hz6
  have d1 := cell_of_row w6 w.heap.size 1 _ _ _ hz6
  have d2 := cell_of_row w6 w.heap.size 2 _ _ _ hz6
  have d3 := cell_of_row w6 w.heap.size 3 _ _ _ hz6
  have d4 := cell_of_row w6 w.heap.size 4 _ _ _ hz6
  have d5 := cell_of_row w6 w.heap.size 5 _ _ _ hz6
  have d6 := cell_of_row w6 w.heap.size 6 _ _ _ hz6
  have d7 := cell_of_row w6 w.heap.size 7 _ _ _ hz6
  have d8 := cell_of_row w6 w.heap.size 8 _ _ _ hz6
  have d9 := cell_of_row w6 w.heap.size 9 _ _ _ hz6
  have d10 := cell_of_row w6 w.heap.size 10 _ _ _ hz6
  have d11 := cell_of_row w6 w.heap.size 11 _ _ _ hz6
  have d12 := cell_of_row w6 w.heap.size 12 _ _ _ hz6
  simp only [List.getElem?_toArray, List.getElem?_cons_zero, List.getElem?_cons_succ] at d0 d1 d2 d3 d4 d5 d6 d7 d8 d9 d10 d11 d12
  have HG6 := Lib.hid hg6
  clear hg6 hz6
  (try go_wp2_with fail)
  (try simp only [Exit.inBlock, Exit.then])
  refine bodyPost_ret (by simp [results, Tryd.results24, go_sem, d0, d1, d2, d3, d4, d5, d6, d7, d8, d9, d10, d11, d12]; try rfl) rfl ?_
  refine ⟨rfl, ?_⟩
  have h1 := HG1.out.trans HGX.out
  have h6 := HG6.out
  exact ⟨h6.os.trans h1.os, h6.output.trans h1.output, Nat.le_trans h1.size h6.size, fun k hk _ => (h6.block k (Nat.lt_of_lt_of_le hk h1.size) (by simp; omega)).trans (h1.block k hk (by simp))⟩

/-- WHAT ANY BYTES ARE AS A Bar: the same to the program and to the document. -/
theorem bar_out (p : Option Addr) (cap : Nat) (bs : List Int) (A : Nat → Addr) (W : World) (hs : Sent W.heap.size W A) (hcap : bs.length ≤ cap) (h : Lie W p bs) (hb : Bytes bs) :
    ∃ (to fr : Ad) (tid seq : Int) (k : Nat), k < 15 ∧
      (∀ w, Gro none W w → Calls Tryd.prog 21 #[.slice p bs.length cap] w fun e w' => e = .returned (.tuple #[barV to fr tid seq, errV A k]) ∧ Gro none w w') ∧
      (∀ w, Gro none W w → Calls Tryd.prog 22 #[.slice p bs.length cap] w fun e w' => e = .returned (.tuple #[barV to fr tid seq, .int .i64 (codeOf k)]) ∧ Gro none w w') := by
  have hF : ∀ w, Gro none W w → Four W.heap.size w A := fun w k => (hs.far fun i hi => k.block i hi (by simp)).four
  by_cases hr : longR bs 132 20 = 0
  · obtain ⟨hlen, -⟩ := longR_zero hr
    obtain ⟨b, o, rfl, -⟩ := h 0 (by omega)
    by_cases hP : isBar bs
    · refine ⟨ad6 bs 4, ad6 bs 10, bTid bs, bSeq bs, 0, by decide, fun w k => ?_, fun w k => ?_⟩
      · exact (readBar_any _ cap bs W.heap.size A w (hF w k) k.size hcap (h.gro k (by simp)) hb hr).mono fun e w' ⟨he, _, hg⟩ => ⟨he hP, hg⟩
      · exact (refReadBar_any b o cap bs w hcap (h.gro k (by simp)) hb hr).mono fun e w' ⟨he, _, hg⟩ => ⟨he hP, hg⟩
    · refine ⟨adZ, adZ, 0, 0, 2, by decide, fun w k => ?_, fun w k => ?_⟩
      · exact (readBar_any _ cap bs W.heap.size A w (hF w k) k.size hcap (h.gro k (by simp)) hb hr).mono fun e w' ⟨_, he, hg⟩ => ⟨he hP, hg⟩
      · exact (refReadBar_any b o cap bs w hcap (h.gro k (by simp)) hb hr).mono fun e w' ⟨_, he, hg⟩ => ⟨he hP, hg⟩
  · refine ⟨adZ, adZ, 0, 0, longR bs 132 20, longR_lt _ _ _, fun w k => ?_, fun w k => ?_⟩
    · exact readBar_bad p cap bs W.heap.size A w (hF w k) k.size (h.gro k (by simp)) hr
    · exact refReadBar_bad p cap bs w (h.gro k (by simp)) hr

/-- WHAT ANY BYTES ARE AS A Ack: the same to the program and to the document. -/
theorem ack_out (p : Option Addr) (cap : Nat) (bs : List Int) (A : Nat → Addr) (W : World) (hs : Sent W.heap.size W A) (hcap : bs.length ≤ cap) (h : Lie W p bs) (hb : Bytes bs) :
    ∃ (to fr : Ad) (tid seq m : Int) (k : Nat), k < 15 ∧
      (∀ w, Gro none W w → Calls Tryd.prog 18 #[.slice p bs.length cap] w fun e w' => e = .returned (.tuple #[ackV to fr tid seq m, errV A k]) ∧ Gro none w w') ∧
      (∀ w, Gro none W w → Calls Tryd.prog 23 #[.slice p bs.length cap] w fun e w' => e = .returned (.tuple #[ackV to fr tid seq m, .int .i64 (codeOf k)]) ∧ Gro none w w') := by
  have hF : ∀ w, Gro none W w → Four W.heap.size w A := fun w k => (hs.far fun i hi => k.block i hi (by simp)).four
  by_cases hr : longR bs 148 28 = 0
  · obtain ⟨hlen, -⟩ := longR_zero hr
    obtain ⟨b, o, rfl, -⟩ := h 0 (by omega)
    by_cases hP : isAck bs
    · refine ⟨ad6 bs 4, ad6 bs 10, bTid bs, bSeq bs, mapV bs 8, 0, by decide, fun w k => ?_, fun w k => ?_⟩
      · exact (readAck_any _ cap bs W.heap.size A w (hF w k) k.size hcap (h.gro k (by simp)) hb hr).mono fun e w' ⟨he, _, hg⟩ => ⟨he hP, hg⟩
      · exact (refReadAck_any b o cap bs w hcap (h.gro k (by simp)) hb hr).mono fun e w' ⟨he, _, hg⟩ => ⟨he hP, hg⟩
    · refine ⟨adZ, adZ, 0, 0, 0, 2, by decide, fun w k => ?_, fun w k => ?_⟩
      · exact (readAck_any _ cap bs W.heap.size A w (hF w k) k.size hcap (h.gro k (by simp)) hb hr).mono fun e w' ⟨_, he, hg⟩ => ⟨he hP, hg⟩
      · exact (refReadAck_any b o cap bs w hcap (h.gro k (by simp)) hb hr).mono fun e w' ⟨_, he, hg⟩ => ⟨he hP, hg⟩
  · refine ⟨adZ, adZ, 0, 0, 0, longR bs 148 28, longR_lt _ _ _, fun w k => ?_, fun w k => ?_⟩
    · exact readAck_bad p cap bs W.heap.size A w (hF w k) k.size (h.gro k (by simp)) hr
    · exact refReadAck_bad p cap bs w (h.gro k (by simp)) hr

/-- WHAT ANY BYTES ARE AS A Poll: the same to the program and to the document. -/
theorem poll_out (p : Option Addr) (cap : Nat) (bs : List Int) (A : Nat → Addr) (W : World) (hs : Sent W.heap.size W A) (hcap : bs.length ≤ cap) (h : Lie W p bs) (hb : Bytes bs) :
    ∃ (aid : Int) (to fr : Ad) (k : Nat), k < 15 ∧
      (∀ w, Gro none W w → Calls Tryd.prog 20 #[.slice p bs.length cap] w fun e w' => e = .returned (.tuple #[pollV aid to fr, errV A k]) ∧ Gro none w w') ∧
      (∀ w, Gro none W w → Calls Tryd.prog 24 #[.slice p bs.length cap] w fun e w' => e = .returned (.tuple #[pollV aid to fr, .int .i64 (codeOf k)]) ∧ Gro none w w') := by
  have hF : ∀ w, Gro none W w → Four W.heap.size w A := fun w k => (hs.far fun i hi => k.block i hi (by simp)).four
  by_cases hr : longR bs 164 16 = 0
  · obtain ⟨hlen, -⟩ := longR_zero hr
    obtain ⟨b, o, rfl, -⟩ := h 0 (by omega)
    by_cases hR : pollR bs = 0
    · refine ⟨num2 bs 2 - 49152, ad6 bs 4, ad6 bs 10, 0, by decide, fun w k => ?_, fun w k => ?_⟩
      · exact (readPoll_any _ cap bs W.heap.size A w (hF w k) k.size hcap (h.gro k (by simp)) hb hr).mono fun e w' ⟨he, hg⟩ => ⟨by rw [he, if_pos hR, hR], hg⟩
      · exact (refReadPoll_any b o cap bs w hcap (h.gro k (by simp)) hb hr).mono fun e w' ⟨he, hg⟩ => ⟨by rw [he, if_pos hR, hR], hg⟩
    · refine ⟨0, adZ, adZ, pollR bs, by unfold pollR; split <;> (try split) <;> omega, fun w k => ?_, fun w k => ?_⟩
      · exact (readPoll_any _ cap bs W.heap.size A w (hF w k) k.size hcap (h.gro k (by simp)) hb hr).mono fun e w' ⟨he, hg⟩ => ⟨by rw [he, if_neg hR], hg⟩
      · exact (refReadPoll_any b o cap bs w hcap (h.gro k (by simp)) hb hr).mono fun e w' ⟨he, hg⟩ => ⟨by rw [he, if_neg hR], hg⟩
  · refine ⟨0, adZ, adZ, longR bs 164 16, longR_lt _ _ _, fun w k => ?_, fun w k => ?_⟩
    · exact readPoll_bad p cap bs W.heap.size A w (hF w k) k.size (h.gro k (by simp)) hr
    · exact refReadPoll_bad p cap bs w (h.gro k (by simp)) hr

set_option maxHeartbeats 8000000 in
set_option maxRecDepth 100000 in
theorem reads_any (p : Option Addr) (cap : Nat) (bs : List Int) (A : Nat → Addr) (W : World) (hs : Sent W.heap.size W A) (hcap : bs.length ≤ cap) (h : Lie W p bs) (hb : Bytes bs) :
    Calls Tryd.prog 6 #[.slice p bs.length cap] W fun e w' => e = .returned (.bool true) ∧ Far W.heap.size W w' := by
  obtain ⟨rto, rfr, rtid, rseq, k1, hk1, c1, d1⟩ := bar_out p cap bs A W hs hcap h hb
  obtain ⟨ato, afr, atid, aseq, am, k2, hk2, c2, d2⟩ := ack_out p cap bs A W hs hcap h hb
  obtain ⟨paid, pto, pfr, k3, hk3, c3, d3⟩ := poll_out p cap bs A W hs hcap h hb
  obtain ⟨rt0, rt1, rt2, rt3, rt4, rt5⟩ := rto
  obtain ⟨rf0, rf1, rf2, rf3, rf4, rf5⟩ := rfr
  obtain ⟨at0, at1, at2, at3, at4, at5⟩ := ato
  obtain ⟨af0, af1, af2, af3, af4, af5⟩ := afr
  obtain ⟨pt0, pt1, pt2, pt3, pt4, pt5⟩ := pto
  obtain ⟨pf0, pf1, pf2, pf3, pf4, pf5⟩ := pfr
  have HIS : Hid (∀ w, Gro none W w → ∀ i, i < 15 → Calls Tryd.prog 16 #[errV A i, .int .i64 (codeOf i)] w fun e w' => e = .returned (.bool true) ∧ Gro none w w') := fun w k i hi => (is_any W.heap.size w A (hs.far fun i hi => k.block i hi (by simp)) k.size i hi (codeOf i)).mono fun e w' ⟨he, hg⟩ => ⟨by rw [he, decide_eq_true rfl], hg⟩
  have HI1 : Hid (∀ w, Gro none W w → Calls Tryd.prog 16 #[errV A k1, .int .i64 (codeOf k1)] w fun e w' => e = .returned (.bool true) ∧ Gro none w w') := fun w k => HIS.out w k k1 hk1
  have HI2 : Hid (∀ w, Gro none W w → Calls Tryd.prog 16 #[errV A k2, .int .i64 (codeOf k2)] w fun e w' => e = .returned (.bool true) ∧ Gro none w w') := fun w k => HIS.out w k k2 hk2
  have HI3 : Hid (∀ w, Gro none W w → Calls Tryd.prog 16 #[errV A k3, .int .i64 (codeOf k3)] w fun e w' => e = .returned (.bool true) ∧ Gro none w w') := fun w k => HIS.out w k k3 hk3
  have HKA := Lib.hid (fun w (k : Gro none W w) => kind_any p cap bs w (h.gro k (by simp)))
  have HKB := Lib.hid (fun w (k : Gro none W w) => refKind_any p cap bs w (h.gro k (by simp)))
  have HC1 := Lib.hid c1
  have HC2 := Lib.hid c2
  have HC3 := Lib.hid c3
  have HD1 := Lib.hid d1
  have HD2 := Lib.hid d2
  have HD3 := Lib.hid d3
  have HSA := Lib.hid (fun w => sameBar_self ⟨rt0, rt1, rt2, rt3, rt4, rt5⟩ ⟨rf0, rf1, rf2, rf3, rf4, rf5⟩ rtid rseq w)
  have HSB := Lib.hid (fun w => sameAck_self ⟨at0, at1, at2, at3, at4, at5⟩ ⟨af0, af1, af2, af3, af4, af5⟩ atid aseq am w)
  have HSC := Lib.hid (fun w => samePoll_self paid ⟨pt0, pt1, pt2, pt3, pt4, pt5⟩ ⟨pf0, pf1, pf2, pf3, pf4, pf5⟩ w)
  generalize errV A k1 = u1 at *
  generalize errV A k2 = u2 at *
  generalize errV A k3 = u3 at *
  generalize codeOf k1 = m1 at *
  generalize codeOf k2 = m2 at *
  generalize codeOf k3 = m3 at *
  generalize kindOf bs = kk at *
  generalize bs.length = len at *
  clear c1 c2 c3 d1 d2 d3 hk1 hk2 hk3 HIS h hb hs hcap
  unfold barV at *
  unfold ackV at *
  unfold pollV at *
  simp only at HC1 HC2 HC3 HD1 HD2 HD3 HSA HSB HSC
  go_enter Tryd.func6, Tryd.ntmps6
  go_wp2_with fail
  refine (first_any W).mono ?_
  rintro e w0 ⟨rfl, hg⟩
  have HW := Lib.hid hg
  clear hg
  by_cases hlen : 60 < (len : Int)
  · clear HC1 HC2 HC3 HD1 HD2 HD3 HSA HSB HSC HI1 HI2 HI3 HKA HKB
    go_wp2_with fail
    go_ret
    exact ⟨rfl, (Far.refl _ _).gro HW.out (Nat.le_refl _) (fun _ e => by cases e)⟩
  go_wp2_with fail
  refine (HC1.out _ HW.out).mono ?_
  rintro e v0 ⟨rfl, hg⟩
  have HT0 := Lib.hid (fun v' (k : Gro none (v0.alloc (.cells #[.int .u8 rt0, .int .u8 rt1, .int .u8 rt2, .int .u8 rt3, .int .u8 rt4, .int .u8 rt5, .int .u8 rf0, .int .u8 rf1, .int .u8 rf2, .int .u8 rf3, .int .u8 rf4, .int .u8 rf5, .int .i64 rtid, .int .i64 rseq] 25)) v') => (k.block v0.heap.size (by simp) (by simp)).trans (heap_alloc_new v0 (.cells #[.int .u8 rt0, .int .u8 rt1, .int .u8 rt2, .int .u8 rt3, .int .u8 rt4, .int .u8 rt5, .int .u8 rf0, .int .u8 rf1, .int .u8 rf2, .int .u8 rf3, .int .u8 rf4, .int .u8 rf5, .int .i64 rtid, .int .i64 rseq] 25)))
  have HW := Lib.hid ((HW.out.trans hg).alloc (.cells #[.int .u8 rt0, .int .u8 rt1, .int .u8 rt2, .int .u8 rt3, .int .u8 rt4, .int .u8 rt5, .int .u8 rf0, .int .u8 rf1, .int .u8 rf2, .int .u8 rf3, .int .u8 rf4, .int .u8 rf5, .int .i64 rtid, .int .i64 rseq] 25))
  clear hg HC1
  go_wp2_with fail
  refine (HC2.out _ HW.out).mono ?_
  rintro e v1 ⟨rfl, hg⟩
  have HT0 := Lib.hid (HT0.out _ hg)
  have HT1 := Lib.hid (fun v' (k : Gro none (v1.alloc (.cells #[.int .u8 at0, .int .u8 at1, .int .u8 at2, .int .u8 at3, .int .u8 at4, .int .u8 at5, .int .u8 af0, .int .u8 af1, .int .u8 af2, .int .u8 af3, .int .u8 af4, .int .u8 af5, .int .i64 atid, .int .i64 aseq, .int .u64 am] 28)) v') => (k.block v1.heap.size (by simp) (by simp)).trans (heap_alloc_new v1 (.cells #[.int .u8 at0, .int .u8 at1, .int .u8 at2, .int .u8 at3, .int .u8 at4, .int .u8 at5, .int .u8 af0, .int .u8 af1, .int .u8 af2, .int .u8 af3, .int .u8 af4, .int .u8 af5, .int .i64 atid, .int .i64 aseq, .int .u64 am] 28)))
  have HW := Lib.hid ((HW.out.trans hg).alloc (.cells #[.int .u8 at0, .int .u8 at1, .int .u8 at2, .int .u8 at3, .int .u8 at4, .int .u8 at5, .int .u8 af0, .int .u8 af1, .int .u8 af2, .int .u8 af3, .int .u8 af4, .int .u8 af5, .int .i64 atid, .int .i64 aseq, .int .u64 am] 28))
  have HT0 := Lib.hid (fun v' (k : Gro none (v1.alloc (.cells #[.int .u8 at0, .int .u8 at1, .int .u8 at2, .int .u8 at3, .int .u8 at4, .int .u8 at5, .int .u8 af0, .int .u8 af1, .int .u8 af2, .int .u8 af3, .int .u8 af4, .int .u8 af5, .int .i64 atid, .int .i64 aseq, .int .u64 am] 28)) v') => (k.block v0.heap.size (by have := blk_in HT0.out; simp; omega) (by simp)).trans ((Below.heap_alloc _ _ _ (blk_in HT0.out)).trans HT0.out))
  clear hg HC2
  go_wp2_with fail
  refine (HC3.out _ HW.out).mono ?_
  rintro e v2 ⟨rfl, hg⟩
  have HT0 := Lib.hid (HT0.out _ hg)
  have HT1 := Lib.hid (HT1.out _ hg)
  have HT2 := Lib.hid (fun v' (k : Gro none (v2.alloc (.cells #[.int .i64 paid, .int .u8 pt0, .int .u8 pt1, .int .u8 pt2, .int .u8 pt3, .int .u8 pt4, .int .u8 pt5, .int .u8 pf0, .int .u8 pf1, .int .u8 pf2, .int .u8 pf3, .int .u8 pf4, .int .u8 pf5] 30)) v') => (k.block v2.heap.size (by simp) (by simp)).trans (heap_alloc_new v2 (.cells #[.int .i64 paid, .int .u8 pt0, .int .u8 pt1, .int .u8 pt2, .int .u8 pt3, .int .u8 pt4, .int .u8 pt5, .int .u8 pf0, .int .u8 pf1, .int .u8 pf2, .int .u8 pf3, .int .u8 pf4, .int .u8 pf5] 30)))
  have HW := Lib.hid ((HW.out.trans hg).alloc (.cells #[.int .i64 paid, .int .u8 pt0, .int .u8 pt1, .int .u8 pt2, .int .u8 pt3, .int .u8 pt4, .int .u8 pt5, .int .u8 pf0, .int .u8 pf1, .int .u8 pf2, .int .u8 pf3, .int .u8 pf4, .int .u8 pf5] 30))
  have HT0 := Lib.hid (fun v' (k : Gro none (v2.alloc (.cells #[.int .i64 paid, .int .u8 pt0, .int .u8 pt1, .int .u8 pt2, .int .u8 pt3, .int .u8 pt4, .int .u8 pt5, .int .u8 pf0, .int .u8 pf1, .int .u8 pf2, .int .u8 pf3, .int .u8 pf4, .int .u8 pf5] 30)) v') => (k.block v0.heap.size (by have := blk_in HT0.out; simp; omega) (by simp)).trans ((Below.heap_alloc _ _ _ (blk_in HT0.out)).trans HT0.out))
  have HT1 := Lib.hid (fun v' (k : Gro none (v2.alloc (.cells #[.int .i64 paid, .int .u8 pt0, .int .u8 pt1, .int .u8 pt2, .int .u8 pt3, .int .u8 pt4, .int .u8 pt5, .int .u8 pf0, .int .u8 pf1, .int .u8 pf2, .int .u8 pf3, .int .u8 pf4, .int .u8 pf5] 30)) v') => (k.block v1.heap.size (by have := blk_in HT1.out; simp; omega) (by simp)).trans ((Below.heap_alloc _ _ _ (blk_in HT1.out)).trans HT1.out))
  clear hg HC3
  go_wp2_with fail
  refine (HD1.out _ HW.out).mono ?_
  rintro e v3 ⟨rfl, hg⟩
  have HT0 := Lib.hid (HT0.out _ hg)
  have HT1 := Lib.hid (HT1.out _ hg)
  have HT2 := Lib.hid (HT2.out _ hg)
  have HT3 := Lib.hid (fun v' (k : Gro none (v3.alloc (.cells #[.int .u8 rt0, .int .u8 rt1, .int .u8 rt2, .int .u8 rt3, .int .u8 rt4, .int .u8 rt5, .int .u8 rf0, .int .u8 rf1, .int .u8 rf2, .int .u8 rf3, .int .u8 rf4, .int .u8 rf5, .int .i64 rtid, .int .i64 rseq] 25)) v') => (k.block v3.heap.size (by simp) (by simp)).trans (heap_alloc_new v3 (.cells #[.int .u8 rt0, .int .u8 rt1, .int .u8 rt2, .int .u8 rt3, .int .u8 rt4, .int .u8 rt5, .int .u8 rf0, .int .u8 rf1, .int .u8 rf2, .int .u8 rf3, .int .u8 rf4, .int .u8 rf5, .int .i64 rtid, .int .i64 rseq] 25)))
  have HW := Lib.hid ((HW.out.trans hg).alloc (.cells #[.int .u8 rt0, .int .u8 rt1, .int .u8 rt2, .int .u8 rt3, .int .u8 rt4, .int .u8 rt5, .int .u8 rf0, .int .u8 rf1, .int .u8 rf2, .int .u8 rf3, .int .u8 rf4, .int .u8 rf5, .int .i64 rtid, .int .i64 rseq] 25))
  have HT0 := Lib.hid (fun v' (k : Gro none (v3.alloc (.cells #[.int .u8 rt0, .int .u8 rt1, .int .u8 rt2, .int .u8 rt3, .int .u8 rt4, .int .u8 rt5, .int .u8 rf0, .int .u8 rf1, .int .u8 rf2, .int .u8 rf3, .int .u8 rf4, .int .u8 rf5, .int .i64 rtid, .int .i64 rseq] 25)) v') => (k.block v0.heap.size (by have := blk_in HT0.out; simp; omega) (by simp)).trans ((Below.heap_alloc _ _ _ (blk_in HT0.out)).trans HT0.out))
  have HT1 := Lib.hid (fun v' (k : Gro none (v3.alloc (.cells #[.int .u8 rt0, .int .u8 rt1, .int .u8 rt2, .int .u8 rt3, .int .u8 rt4, .int .u8 rt5, .int .u8 rf0, .int .u8 rf1, .int .u8 rf2, .int .u8 rf3, .int .u8 rf4, .int .u8 rf5, .int .i64 rtid, .int .i64 rseq] 25)) v') => (k.block v1.heap.size (by have := blk_in HT1.out; simp; omega) (by simp)).trans ((Below.heap_alloc _ _ _ (blk_in HT1.out)).trans HT1.out))
  have HT2 := Lib.hid (fun v' (k : Gro none (v3.alloc (.cells #[.int .u8 rt0, .int .u8 rt1, .int .u8 rt2, .int .u8 rt3, .int .u8 rt4, .int .u8 rt5, .int .u8 rf0, .int .u8 rf1, .int .u8 rf2, .int .u8 rf3, .int .u8 rf4, .int .u8 rf5, .int .i64 rtid, .int .i64 rseq] 25)) v') => (k.block v2.heap.size (by have := blk_in HT2.out; simp; omega) (by simp)).trans ((Below.heap_alloc _ _ _ (blk_in HT2.out)).trans HT2.out))
  clear hg HD1
  go_wp2_with fail
  refine (HD2.out _ HW.out).mono ?_
  rintro e v4 ⟨rfl, hg⟩
  have HT0 := Lib.hid (HT0.out _ hg)
  have HT1 := Lib.hid (HT1.out _ hg)
  have HT2 := Lib.hid (HT2.out _ hg)
  have HT3 := Lib.hid (HT3.out _ hg)
  have HT4 := Lib.hid (fun v' (k : Gro none (v4.alloc (.cells #[.int .u8 at0, .int .u8 at1, .int .u8 at2, .int .u8 at3, .int .u8 at4, .int .u8 at5, .int .u8 af0, .int .u8 af1, .int .u8 af2, .int .u8 af3, .int .u8 af4, .int .u8 af5, .int .i64 atid, .int .i64 aseq, .int .u64 am] 28)) v') => (k.block v4.heap.size (by simp) (by simp)).trans (heap_alloc_new v4 (.cells #[.int .u8 at0, .int .u8 at1, .int .u8 at2, .int .u8 at3, .int .u8 at4, .int .u8 at5, .int .u8 af0, .int .u8 af1, .int .u8 af2, .int .u8 af3, .int .u8 af4, .int .u8 af5, .int .i64 atid, .int .i64 aseq, .int .u64 am] 28)))
  have HW := Lib.hid ((HW.out.trans hg).alloc (.cells #[.int .u8 at0, .int .u8 at1, .int .u8 at2, .int .u8 at3, .int .u8 at4, .int .u8 at5, .int .u8 af0, .int .u8 af1, .int .u8 af2, .int .u8 af3, .int .u8 af4, .int .u8 af5, .int .i64 atid, .int .i64 aseq, .int .u64 am] 28))
  have HT0 := Lib.hid (fun v' (k : Gro none (v4.alloc (.cells #[.int .u8 at0, .int .u8 at1, .int .u8 at2, .int .u8 at3, .int .u8 at4, .int .u8 at5, .int .u8 af0, .int .u8 af1, .int .u8 af2, .int .u8 af3, .int .u8 af4, .int .u8 af5, .int .i64 atid, .int .i64 aseq, .int .u64 am] 28)) v') => (k.block v0.heap.size (by have := blk_in HT0.out; simp; omega) (by simp)).trans ((Below.heap_alloc _ _ _ (blk_in HT0.out)).trans HT0.out))
  have HT1 := Lib.hid (fun v' (k : Gro none (v4.alloc (.cells #[.int .u8 at0, .int .u8 at1, .int .u8 at2, .int .u8 at3, .int .u8 at4, .int .u8 at5, .int .u8 af0, .int .u8 af1, .int .u8 af2, .int .u8 af3, .int .u8 af4, .int .u8 af5, .int .i64 atid, .int .i64 aseq, .int .u64 am] 28)) v') => (k.block v1.heap.size (by have := blk_in HT1.out; simp; omega) (by simp)).trans ((Below.heap_alloc _ _ _ (blk_in HT1.out)).trans HT1.out))
  have HT2 := Lib.hid (fun v' (k : Gro none (v4.alloc (.cells #[.int .u8 at0, .int .u8 at1, .int .u8 at2, .int .u8 at3, .int .u8 at4, .int .u8 at5, .int .u8 af0, .int .u8 af1, .int .u8 af2, .int .u8 af3, .int .u8 af4, .int .u8 af5, .int .i64 atid, .int .i64 aseq, .int .u64 am] 28)) v') => (k.block v2.heap.size (by have := blk_in HT2.out; simp; omega) (by simp)).trans ((Below.heap_alloc _ _ _ (blk_in HT2.out)).trans HT2.out))
  have HT3 := Lib.hid (fun v' (k : Gro none (v4.alloc (.cells #[.int .u8 at0, .int .u8 at1, .int .u8 at2, .int .u8 at3, .int .u8 at4, .int .u8 at5, .int .u8 af0, .int .u8 af1, .int .u8 af2, .int .u8 af3, .int .u8 af4, .int .u8 af5, .int .i64 atid, .int .i64 aseq, .int .u64 am] 28)) v') => (k.block v3.heap.size (by have := blk_in HT3.out; simp; omega) (by simp)).trans ((Below.heap_alloc _ _ _ (blk_in HT3.out)).trans HT3.out))
  clear hg HD2
  go_wp2_with fail
  refine (HD3.out _ HW.out).mono ?_
  rintro e v5 ⟨rfl, hg⟩
  have HT0 := Lib.hid (HT0.out _ hg)
  have HT1 := Lib.hid (HT1.out _ hg)
  have HT2 := Lib.hid (HT2.out _ hg)
  have HT3 := Lib.hid (HT3.out _ hg)
  have HT4 := Lib.hid (HT4.out _ hg)
  have HT5 := Lib.hid (fun v' (k : Gro none (v5.alloc (.cells #[.int .i64 paid, .int .u8 pt0, .int .u8 pt1, .int .u8 pt2, .int .u8 pt3, .int .u8 pt4, .int .u8 pt5, .int .u8 pf0, .int .u8 pf1, .int .u8 pf2, .int .u8 pf3, .int .u8 pf4, .int .u8 pf5] 30)) v') => (k.block v5.heap.size (by simp) (by simp)).trans (heap_alloc_new v5 (.cells #[.int .i64 paid, .int .u8 pt0, .int .u8 pt1, .int .u8 pt2, .int .u8 pt3, .int .u8 pt4, .int .u8 pt5, .int .u8 pf0, .int .u8 pf1, .int .u8 pf2, .int .u8 pf3, .int .u8 pf4, .int .u8 pf5] 30)))
  have HW := Lib.hid ((HW.out.trans hg).alloc (.cells #[.int .i64 paid, .int .u8 pt0, .int .u8 pt1, .int .u8 pt2, .int .u8 pt3, .int .u8 pt4, .int .u8 pt5, .int .u8 pf0, .int .u8 pf1, .int .u8 pf2, .int .u8 pf3, .int .u8 pf4, .int .u8 pf5] 30))
  have HT0 := Lib.hid (fun v' (k : Gro none (v5.alloc (.cells #[.int .i64 paid, .int .u8 pt0, .int .u8 pt1, .int .u8 pt2, .int .u8 pt3, .int .u8 pt4, .int .u8 pt5, .int .u8 pf0, .int .u8 pf1, .int .u8 pf2, .int .u8 pf3, .int .u8 pf4, .int .u8 pf5] 30)) v') => (k.block v0.heap.size (by have := blk_in HT0.out; simp; omega) (by simp)).trans ((Below.heap_alloc _ _ _ (blk_in HT0.out)).trans HT0.out))
  have HT1 := Lib.hid (fun v' (k : Gro none (v5.alloc (.cells #[.int .i64 paid, .int .u8 pt0, .int .u8 pt1, .int .u8 pt2, .int .u8 pt3, .int .u8 pt4, .int .u8 pt5, .int .u8 pf0, .int .u8 pf1, .int .u8 pf2, .int .u8 pf3, .int .u8 pf4, .int .u8 pf5] 30)) v') => (k.block v1.heap.size (by have := blk_in HT1.out; simp; omega) (by simp)).trans ((Below.heap_alloc _ _ _ (blk_in HT1.out)).trans HT1.out))
  have HT2 := Lib.hid (fun v' (k : Gro none (v5.alloc (.cells #[.int .i64 paid, .int .u8 pt0, .int .u8 pt1, .int .u8 pt2, .int .u8 pt3, .int .u8 pt4, .int .u8 pt5, .int .u8 pf0, .int .u8 pf1, .int .u8 pf2, .int .u8 pf3, .int .u8 pf4, .int .u8 pf5] 30)) v') => (k.block v2.heap.size (by have := blk_in HT2.out; simp; omega) (by simp)).trans ((Below.heap_alloc _ _ _ (blk_in HT2.out)).trans HT2.out))
  have HT3 := Lib.hid (fun v' (k : Gro none (v5.alloc (.cells #[.int .i64 paid, .int .u8 pt0, .int .u8 pt1, .int .u8 pt2, .int .u8 pt3, .int .u8 pt4, .int .u8 pt5, .int .u8 pf0, .int .u8 pf1, .int .u8 pf2, .int .u8 pf3, .int .u8 pf4, .int .u8 pf5] 30)) v') => (k.block v3.heap.size (by have := blk_in HT3.out; simp; omega) (by simp)).trans ((Below.heap_alloc _ _ _ (blk_in HT3.out)).trans HT3.out))
  have HT4 := Lib.hid (fun v' (k : Gro none (v5.alloc (.cells #[.int .i64 paid, .int .u8 pt0, .int .u8 pt1, .int .u8 pt2, .int .u8 pt3, .int .u8 pt4, .int .u8 pt5, .int .u8 pf0, .int .u8 pf1, .int .u8 pf2, .int .u8 pf3, .int .u8 pf4, .int .u8 pf5] 30)) v') => (k.block v4.heap.size (by have := blk_in HT4.out; simp; omega) (by simp)).trans ((Below.heap_alloc _ _ _ (blk_in HT4.out)).trans HT4.out))
  clear hg HD3
  have HX := Lib.hid (HW.out)
  have ha := HT0.out (v5.alloc (.cells #[.int .i64 paid, .int .u8 pt0, .int .u8 pt1, .int .u8 pt2, .int .u8 pt3, .int .u8 pt4, .int .u8 pt5, .int .u8 pf0, .int .u8 pf1, .int .u8 pf2, .int .u8 pf3, .int .u8 pf4, .int .u8 pf5] 30)) (Gro.refl _ _)
  have hb := HT3.out (v5.alloc (.cells #[.int .i64 paid, .int .u8 pt0, .int .u8 pt1, .int .u8 pt2, .int .u8 pt3, .int .u8 pt4, .int .u8 pt5, .int .u8 pf0, .int .u8 pf1, .int .u8 pf2, .int .u8 pf3, .int .u8 pf4, .int .u8 pf5] 30)) (Gro.refl _ _)
  have y0 := cell_of_row (v5.alloc (.cells #[.int .i64 paid, .int .u8 pt0, .int .u8 pt1, .int .u8 pt2, .int .u8 pt3, .int .u8 pt4, .int .u8 pt5, .int .u8 pf0, .int .u8 pf1, .int .u8 pf2, .int .u8 pf3, .int .u8 pf4, .int .u8 pf5] 30)) v0.heap.size 0 _ _ _ ha
  have y1 := cell_of_row (v5.alloc (.cells #[.int .i64 paid, .int .u8 pt0, .int .u8 pt1, .int .u8 pt2, .int .u8 pt3, .int .u8 pt4, .int .u8 pt5, .int .u8 pf0, .int .u8 pf1, .int .u8 pf2, .int .u8 pf3, .int .u8 pf4, .int .u8 pf5] 30)) v0.heap.size 1 _ _ _ ha
  have y2 := cell_of_row (v5.alloc (.cells #[.int .i64 paid, .int .u8 pt0, .int .u8 pt1, .int .u8 pt2, .int .u8 pt3, .int .u8 pt4, .int .u8 pt5, .int .u8 pf0, .int .u8 pf1, .int .u8 pf2, .int .u8 pf3, .int .u8 pf4, .int .u8 pf5] 30)) v0.heap.size 2 _ _ _ ha
  have y3 := cell_of_row (v5.alloc (.cells #[.int .i64 paid, .int .u8 pt0, .int .u8 pt1, .int .u8 pt2, .int .u8 pt3, .int .u8 pt4, .int .u8 pt5, .int .u8 pf0, .int .u8 pf1, .int .u8 pf2, .int .u8 pf3, .int .u8 pf4, .int .u8 pf5] 30)) v0.heap.size 3 _ _ _ ha
  have y4 := cell_of_row (v5.alloc (.cells #[.int .i64 paid, .int .u8 pt0, .int .u8 pt1, .int .u8 pt2, .int .u8 pt3, .int .u8 pt4, .int .u8 pt5, .int .u8 pf0, .int .u8 pf1, .int .u8 pf2, .int .u8 pf3, .int .u8 pf4, .int .u8 pf5] 30)) v0.heap.size 4 _ _ _ ha
  have y5 := cell_of_row (v5.alloc (.cells #[.int .i64 paid, .int .u8 pt0, .int .u8 pt1, .int .u8 pt2, .int .u8 pt3, .int .u8 pt4, .int .u8 pt5, .int .u8 pf0, .int .u8 pf1, .int .u8 pf2, .int .u8 pf3, .int .u8 pf4, .int .u8 pf5] 30)) v0.heap.size 5 _ _ _ ha
  have y6 := cell_of_row (v5.alloc (.cells #[.int .i64 paid, .int .u8 pt0, .int .u8 pt1, .int .u8 pt2, .int .u8 pt3, .int .u8 pt4, .int .u8 pt5, .int .u8 pf0, .int .u8 pf1, .int .u8 pf2, .int .u8 pf3, .int .u8 pf4, .int .u8 pf5] 30)) v0.heap.size 6 _ _ _ ha
  have y7 := cell_of_row (v5.alloc (.cells #[.int .i64 paid, .int .u8 pt0, .int .u8 pt1, .int .u8 pt2, .int .u8 pt3, .int .u8 pt4, .int .u8 pt5, .int .u8 pf0, .int .u8 pf1, .int .u8 pf2, .int .u8 pf3, .int .u8 pf4, .int .u8 pf5] 30)) v0.heap.size 7 _ _ _ ha
  have y8 := cell_of_row (v5.alloc (.cells #[.int .i64 paid, .int .u8 pt0, .int .u8 pt1, .int .u8 pt2, .int .u8 pt3, .int .u8 pt4, .int .u8 pt5, .int .u8 pf0, .int .u8 pf1, .int .u8 pf2, .int .u8 pf3, .int .u8 pf4, .int .u8 pf5] 30)) v0.heap.size 8 _ _ _ ha
  have y9 := cell_of_row (v5.alloc (.cells #[.int .i64 paid, .int .u8 pt0, .int .u8 pt1, .int .u8 pt2, .int .u8 pt3, .int .u8 pt4, .int .u8 pt5, .int .u8 pf0, .int .u8 pf1, .int .u8 pf2, .int .u8 pf3, .int .u8 pf4, .int .u8 pf5] 30)) v0.heap.size 9 _ _ _ ha
  have y10 := cell_of_row (v5.alloc (.cells #[.int .i64 paid, .int .u8 pt0, .int .u8 pt1, .int .u8 pt2, .int .u8 pt3, .int .u8 pt4, .int .u8 pt5, .int .u8 pf0, .int .u8 pf1, .int .u8 pf2, .int .u8 pf3, .int .u8 pf4, .int .u8 pf5] 30)) v0.heap.size 10 _ _ _ ha
  have y11 := cell_of_row (v5.alloc (.cells #[.int .i64 paid, .int .u8 pt0, .int .u8 pt1, .int .u8 pt2, .int .u8 pt3, .int .u8 pt4, .int .u8 pt5, .int .u8 pf0, .int .u8 pf1, .int .u8 pf2, .int .u8 pf3, .int .u8 pf4, .int .u8 pf5] 30)) v0.heap.size 11 _ _ _ ha
  have y12 := cell_of_row (v5.alloc (.cells #[.int .i64 paid, .int .u8 pt0, .int .u8 pt1, .int .u8 pt2, .int .u8 pt3, .int .u8 pt4, .int .u8 pt5, .int .u8 pf0, .int .u8 pf1, .int .u8 pf2, .int .u8 pf3, .int .u8 pf4, .int .u8 pf5] 30)) v0.heap.size 12 _ _ _ ha
  have y13 := cell_of_row (v5.alloc (.cells #[.int .i64 paid, .int .u8 pt0, .int .u8 pt1, .int .u8 pt2, .int .u8 pt3, .int .u8 pt4, .int .u8 pt5, .int .u8 pf0, .int .u8 pf1, .int .u8 pf2, .int .u8 pf3, .int .u8 pf4, .int .u8 pf5] 30)) v0.heap.size 13 _ _ _ ha
  simp only [List.getElem?_toArray, List.getElem?_cons_zero, List.getElem?_cons_succ] at y0 y1 y2 y3 y4 y5 y6 y7 y8 y9 y10 y11 y12 y13
  have z0 := cell_of_row (v5.alloc (.cells #[.int .i64 paid, .int .u8 pt0, .int .u8 pt1, .int .u8 pt2, .int .u8 pt3, .int .u8 pt4, .int .u8 pt5, .int .u8 pf0, .int .u8 pf1, .int .u8 pf2, .int .u8 pf3, .int .u8 pf4, .int .u8 pf5] 30)) v3.heap.size 0 _ _ _ hb
  have z1 := cell_of_row (v5.alloc (.cells #[.int .i64 paid, .int .u8 pt0, .int .u8 pt1, .int .u8 pt2, .int .u8 pt3, .int .u8 pt4, .int .u8 pt5, .int .u8 pf0, .int .u8 pf1, .int .u8 pf2, .int .u8 pf3, .int .u8 pf4, .int .u8 pf5] 30)) v3.heap.size 1 _ _ _ hb
  have z2 := cell_of_row (v5.alloc (.cells #[.int .i64 paid, .int .u8 pt0, .int .u8 pt1, .int .u8 pt2, .int .u8 pt3, .int .u8 pt4, .int .u8 pt5, .int .u8 pf0, .int .u8 pf1, .int .u8 pf2, .int .u8 pf3, .int .u8 pf4, .int .u8 pf5] 30)) v3.heap.size 2 _ _ _ hb
  have z3 := cell_of_row (v5.alloc (.cells #[.int .i64 paid, .int .u8 pt0, .int .u8 pt1, .int .u8 pt2, .int .u8 pt3, .int .u8 pt4, .int .u8 pt5, .int .u8 pf0, .int .u8 pf1, .int .u8 pf2, .int .u8 pf3, .int .u8 pf4, .int .u8 pf5] 30)) v3.heap.size 3 _ _ _ hb
  have z4 := cell_of_row (v5.alloc (.cells #[.int .i64 paid, .int .u8 pt0, .int .u8 pt1, .int .u8 pt2, .int .u8 pt3, .int .u8 pt4, .int .u8 pt5, .int .u8 pf0, .int .u8 pf1, .int .u8 pf2, .int .u8 pf3, .int .u8 pf4, .int .u8 pf5] 30)) v3.heap.size 4 _ _ _ hb
  have z5 := cell_of_row (v5.alloc (.cells #[.int .i64 paid, .int .u8 pt0, .int .u8 pt1, .int .u8 pt2, .int .u8 pt3, .int .u8 pt4, .int .u8 pt5, .int .u8 pf0, .int .u8 pf1, .int .u8 pf2, .int .u8 pf3, .int .u8 pf4, .int .u8 pf5] 30)) v3.heap.size 5 _ _ _ hb
  have z6 := cell_of_row (v5.alloc (.cells #[.int .i64 paid, .int .u8 pt0, .int .u8 pt1, .int .u8 pt2, .int .u8 pt3, .int .u8 pt4, .int .u8 pt5, .int .u8 pf0, .int .u8 pf1, .int .u8 pf2, .int .u8 pf3, .int .u8 pf4, .int .u8 pf5] 30)) v3.heap.size 6 _ _ _ hb
  have z7 := cell_of_row (v5.alloc (.cells #[.int .i64 paid, .int .u8 pt0, .int .u8 pt1, .int .u8 pt2, .int .u8 pt3, .int .u8 pt4, .int .u8 pt5, .int .u8 pf0, .int .u8 pf1, .int .u8 pf2, .int .u8 pf3, .int .u8 pf4, .int .u8 pf5] 30)) v3.heap.size 7 _ _ _ hb
  have z8 := cell_of_row (v5.alloc (.cells #[.int .i64 paid, .int .u8 pt0, .int .u8 pt1, .int .u8 pt2, .int .u8 pt3, .int .u8 pt4, .int .u8 pt5, .int .u8 pf0, .int .u8 pf1, .int .u8 pf2, .int .u8 pf3, .int .u8 pf4, .int .u8 pf5] 30)) v3.heap.size 8 _ _ _ hb
  have z9 := cell_of_row (v5.alloc (.cells #[.int .i64 paid, .int .u8 pt0, .int .u8 pt1, .int .u8 pt2, .int .u8 pt3, .int .u8 pt4, .int .u8 pt5, .int .u8 pf0, .int .u8 pf1, .int .u8 pf2, .int .u8 pf3, .int .u8 pf4, .int .u8 pf5] 30)) v3.heap.size 9 _ _ _ hb
  have z10 := cell_of_row (v5.alloc (.cells #[.int .i64 paid, .int .u8 pt0, .int .u8 pt1, .int .u8 pt2, .int .u8 pt3, .int .u8 pt4, .int .u8 pt5, .int .u8 pf0, .int .u8 pf1, .int .u8 pf2, .int .u8 pf3, .int .u8 pf4, .int .u8 pf5] 30)) v3.heap.size 10 _ _ _ hb
  have z11 := cell_of_row (v5.alloc (.cells #[.int .i64 paid, .int .u8 pt0, .int .u8 pt1, .int .u8 pt2, .int .u8 pt3, .int .u8 pt4, .int .u8 pt5, .int .u8 pf0, .int .u8 pf1, .int .u8 pf2, .int .u8 pf3, .int .u8 pf4, .int .u8 pf5] 30)) v3.heap.size 11 _ _ _ hb
  have z12 := cell_of_row (v5.alloc (.cells #[.int .i64 paid, .int .u8 pt0, .int .u8 pt1, .int .u8 pt2, .int .u8 pt3, .int .u8 pt4, .int .u8 pt5, .int .u8 pf0, .int .u8 pf1, .int .u8 pf2, .int .u8 pf3, .int .u8 pf4, .int .u8 pf5] 30)) v3.heap.size 12 _ _ _ hb
  have z13 := cell_of_row (v5.alloc (.cells #[.int .i64 paid, .int .u8 pt0, .int .u8 pt1, .int .u8 pt2, .int .u8 pt3, .int .u8 pt4, .int .u8 pt5, .int .u8 pf0, .int .u8 pf1, .int .u8 pf2, .int .u8 pf3, .int .u8 pf4, .int .u8 pf5] 30)) v3.heap.size 13 _ _ _ hb
  simp only [List.getElem?_toArray, List.getElem?_cons_zero, List.getElem?_cons_succ] at z0 z1 z2 z3 z4 z5 z6 z7 z8 z9 z10 z11 z12 z13
  clear ha hb
  go_wp2_with fail
  refine (HSA.out _).mono ?_
  rintro e x0 ⟨rfl, hg⟩
  have HG := Lib.hid (hg)
  clear hg y0 y1 y2 y3 y4 y5 y6 y7 y8 y9 y10 y11 y12 y13 z0 z1 z2 z3 z4 z5 z6 z7 z8 z9 z10 z11 z12 z13
  go_wp2_with fail
  refine (HI1.out _ (HX.out.trans HG.out)).mono ?_
  rintro e x0i ⟨rfl, hg⟩
  have HG := Lib.hid (HG.out.trans hg)
  clear hg
  have ha := HT1.out x0i HG.out
  have hb := HT4.out x0i HG.out
  have y0 := cell_of_row x0i v1.heap.size 0 _ _ _ ha
  have y1 := cell_of_row x0i v1.heap.size 1 _ _ _ ha
  have y2 := cell_of_row x0i v1.heap.size 2 _ _ _ ha
  have y3 := cell_of_row x0i v1.heap.size 3 _ _ _ ha
  have y4 := cell_of_row x0i v1.heap.size 4 _ _ _ ha
  have y5 := cell_of_row x0i v1.heap.size 5 _ _ _ ha
  have y6 := cell_of_row x0i v1.heap.size 6 _ _ _ ha
  have y7 := cell_of_row x0i v1.heap.size 7 _ _ _ ha
  have y8 := cell_of_row x0i v1.heap.size 8 _ _ _ ha
  have y9 := cell_of_row x0i v1.heap.size 9 _ _ _ ha
  have y10 := cell_of_row x0i v1.heap.size 10 _ _ _ ha
  have y11 := cell_of_row x0i v1.heap.size 11 _ _ _ ha
  have y12 := cell_of_row x0i v1.heap.size 12 _ _ _ ha
  have y13 := cell_of_row x0i v1.heap.size 13 _ _ _ ha
  have y14 := cell_of_row x0i v1.heap.size 14 _ _ _ ha
  simp only [List.getElem?_toArray, List.getElem?_cons_zero, List.getElem?_cons_succ] at y0 y1 y2 y3 y4 y5 y6 y7 y8 y9 y10 y11 y12 y13 y14
  have z0 := cell_of_row x0i v4.heap.size 0 _ _ _ hb
  have z1 := cell_of_row x0i v4.heap.size 1 _ _ _ hb
  have z2 := cell_of_row x0i v4.heap.size 2 _ _ _ hb
  have z3 := cell_of_row x0i v4.heap.size 3 _ _ _ hb
  have z4 := cell_of_row x0i v4.heap.size 4 _ _ _ hb
  have z5 := cell_of_row x0i v4.heap.size 5 _ _ _ hb
  have z6 := cell_of_row x0i v4.heap.size 6 _ _ _ hb
  have z7 := cell_of_row x0i v4.heap.size 7 _ _ _ hb
  have z8 := cell_of_row x0i v4.heap.size 8 _ _ _ hb
  have z9 := cell_of_row x0i v4.heap.size 9 _ _ _ hb
  have z10 := cell_of_row x0i v4.heap.size 10 _ _ _ hb
  have z11 := cell_of_row x0i v4.heap.size 11 _ _ _ hb
  have z12 := cell_of_row x0i v4.heap.size 12 _ _ _ hb
  have z13 := cell_of_row x0i v4.heap.size 13 _ _ _ hb
  have z14 := cell_of_row x0i v4.heap.size 14 _ _ _ hb
  simp only [List.getElem?_toArray, List.getElem?_cons_zero, List.getElem?_cons_succ] at z0 z1 z2 z3 z4 z5 z6 z7 z8 z9 z10 z11 z12 z13 z14
  clear ha hb
  go_wp2_with fail
  refine (HSB.out _).mono ?_
  rintro e x1 ⟨rfl, hg⟩
  have HG := Lib.hid (HG.out.trans hg)
  clear hg y0 y1 y2 y3 y4 y5 y6 y7 y8 y9 y10 y11 y12 y13 y14 z0 z1 z2 z3 z4 z5 z6 z7 z8 z9 z10 z11 z12 z13 z14
  go_wp2_with fail
  refine (HI2.out _ (HX.out.trans HG.out)).mono ?_
  rintro e x1i ⟨rfl, hg⟩
  have HG := Lib.hid (HG.out.trans hg)
  clear hg
  have ha := HT2.out x1i HG.out
  have hb := HT5.out x1i HG.out
  have y0 := cell_of_row x1i v2.heap.size 0 _ _ _ ha
  have y1 := cell_of_row x1i v2.heap.size 1 _ _ _ ha
  have y2 := cell_of_row x1i v2.heap.size 2 _ _ _ ha
  have y3 := cell_of_row x1i v2.heap.size 3 _ _ _ ha
  have y4 := cell_of_row x1i v2.heap.size 4 _ _ _ ha
  have y5 := cell_of_row x1i v2.heap.size 5 _ _ _ ha
  have y6 := cell_of_row x1i v2.heap.size 6 _ _ _ ha
  have y7 := cell_of_row x1i v2.heap.size 7 _ _ _ ha
  have y8 := cell_of_row x1i v2.heap.size 8 _ _ _ ha
  have y9 := cell_of_row x1i v2.heap.size 9 _ _ _ ha
  have y10 := cell_of_row x1i v2.heap.size 10 _ _ _ ha
  have y11 := cell_of_row x1i v2.heap.size 11 _ _ _ ha
  have y12 := cell_of_row x1i v2.heap.size 12 _ _ _ ha
  simp only [List.getElem?_toArray, List.getElem?_cons_zero, List.getElem?_cons_succ] at y0 y1 y2 y3 y4 y5 y6 y7 y8 y9 y10 y11 y12
  have z0 := cell_of_row x1i v5.heap.size 0 _ _ _ hb
  have z1 := cell_of_row x1i v5.heap.size 1 _ _ _ hb
  have z2 := cell_of_row x1i v5.heap.size 2 _ _ _ hb
  have z3 := cell_of_row x1i v5.heap.size 3 _ _ _ hb
  have z4 := cell_of_row x1i v5.heap.size 4 _ _ _ hb
  have z5 := cell_of_row x1i v5.heap.size 5 _ _ _ hb
  have z6 := cell_of_row x1i v5.heap.size 6 _ _ _ hb
  have z7 := cell_of_row x1i v5.heap.size 7 _ _ _ hb
  have z8 := cell_of_row x1i v5.heap.size 8 _ _ _ hb
  have z9 := cell_of_row x1i v5.heap.size 9 _ _ _ hb
  have z10 := cell_of_row x1i v5.heap.size 10 _ _ _ hb
  have z11 := cell_of_row x1i v5.heap.size 11 _ _ _ hb
  have z12 := cell_of_row x1i v5.heap.size 12 _ _ _ hb
  simp only [List.getElem?_toArray, List.getElem?_cons_zero, List.getElem?_cons_succ] at z0 z1 z2 z3 z4 z5 z6 z7 z8 z9 z10 z11 z12
  clear ha hb
  go_wp2_with fail
  refine (HSC.out _).mono ?_
  rintro e x2 ⟨rfl, hg⟩
  have HG := Lib.hid (HG.out.trans hg)
  clear hg y0 y1 y2 y3 y4 y5 y6 y7 y8 y9 y10 y11 y12 z0 z1 z2 z3 z4 z5 z6 z7 z8 z9 z10 z11 z12
  go_wp2_with fail
  refine (HI3.out _ (HX.out.trans HG.out)).mono ?_
  rintro e x2i ⟨rfl, hg⟩
  have HG := Lib.hid (HG.out.trans hg)
  clear hg
  go_wp2_with fail
  refine (HKA.out _ (HX.out.trans HG.out)).mono ?_
  rintro e w' ⟨rfl, rfl⟩
  go_wp2_with fail
  refine (HKB.out _ (HX.out.trans HG.out)).mono ?_
  rintro e w' ⟨rfl, rfl⟩
  go_wp2_with fail
  go_ret
  refine ⟨by simp, ?_⟩
  exact (Far.refl _ _).gro (HX.out.trans HG.out) (Nat.le_refl _) (fun _ e => by cases e)
end Go.Proofs.YtadcpoglkmklhaaDoor
