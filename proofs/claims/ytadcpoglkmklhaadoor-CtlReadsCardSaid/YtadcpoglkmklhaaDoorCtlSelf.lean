/-
  muezzinref.SameBar, SamePoll, SameAck of a frame with itself: true. No condition.
-/
import Derived.Test.YtadcpoglkmklhaaDoorCtlSame
namespace Go.Proofs.YtadcpoglkmklhaaDoor
open Go.RowKit

theorem sameAddr_self (x : Ad) (w : World) : Calls Tryd.prog 39 #[adV x, adV x] w fun e w' => e = .returned (.bool true) ∧ Gro none w w' :=
  (sameAddr_any x x w).mono fun e w' ⟨he, hg⟩ => ⟨by rw [he, decide_eq_true rfl], hg⟩
theorem sameAck_self (to fr : Ad) (tid seq m : Int) (w : World) : Calls Tryd.prog 19 #[ackV to fr tid seq m, ackV to fr tid seq m] w fun e w' => e = .returned (.bool true) ∧ Gro none w w' :=
  (sameAck_any to fr to fr tid seq m tid seq m w).mono fun e w' ⟨he, hg⟩ => ⟨by rw [he, decide_eq_true ⟨rfl, rfl, rfl, rfl, rfl⟩], hg⟩

theorem sameBar_self (to fr : Ad) (tid seq : Int) (w : World) : Calls Tryd.prog 25 #[barV to fr tid seq, barV to fr tid seq] w fun e w' => e = .returned (.bool true) ∧ Gro none w w' := by
  have HA := Lib.hid (fun w' => sameAddr_self to w')
  have HB := Lib.hid (fun w' => sameAddr_self fr w')
  obtain ⟨t0, t1, t2, t3, t4, t5⟩ := to
  obtain ⟨f0, f1, f2, f3, f4, f5⟩ := fr
  unfold barV
  unfold adV at HA HB
  simp only at HA HB ⊢
  have hc : ∀ w', Gro none ((w.alloc (.cells #[.int .u8 t0, .int .u8 t1, .int .u8 t2, .int .u8 t3, .int .u8 t4, .int .u8 t5, .int .u8 f0, .int .u8 f1, .int .u8 f2, .int .u8 f3, .int .u8 f4, .int .u8 f5, .int .i64 tid, .int .i64 seq] 25)).alloc (.cells #[.int .u8 t0, .int .u8 t1, .int .u8 t2, .int .u8 t3, .int .u8 t4, .int .u8 t5, .int .u8 f0, .int .u8 f1, .int .u8 f2, .int .u8 f3, .int .u8 f4, .int .u8 f5, .int .i64 tid, .int .i64 seq] 25)) w' → w'.heap[w.heap.size]? = some (.cells #[.int .u8 t0, .int .u8 t1, .int .u8 t2, .int .u8 t3, .int .u8 t4, .int .u8 t5, .int .u8 f0, .int .u8 f1, .int .u8 f2, .int .u8 f3, .int .u8 f4, .int .u8 f5, .int .i64 tid, .int .i64 seq] 25 (0, 0)) := fun w' k => (k.block w.heap.size (by simp; omega) (by simp)).trans ((Below.heap_alloc _ _ _ (by simp)).trans (heap_alloc_new w _))
  have hd : ∀ w', Gro none ((w.alloc (.cells #[.int .u8 t0, .int .u8 t1, .int .u8 t2, .int .u8 t3, .int .u8 t4, .int .u8 t5, .int .u8 f0, .int .u8 f1, .int .u8 f2, .int .u8 f3, .int .u8 f4, .int .u8 f5, .int .i64 tid, .int .i64 seq] 25)).alloc (.cells #[.int .u8 t0, .int .u8 t1, .int .u8 t2, .int .u8 t3, .int .u8 t4, .int .u8 t5, .int .u8 f0, .int .u8 f1, .int .u8 f2, .int .u8 f3, .int .u8 f4, .int .u8 f5, .int .i64 tid, .int .i64 seq] 25)) w' → w'.heap[w.heap.size + 1]? = some (.cells #[.int .u8 t0, .int .u8 t1, .int .u8 t2, .int .u8 t3, .int .u8 t4, .int .u8 t5, .int .u8 f0, .int .u8 f1, .int .u8 f2, .int .u8 f3, .int .u8 f4, .int .u8 f5, .int .i64 tid, .int .i64 seq] 25 (0, 0)) := fun w' k => by
    have h := heap_alloc_new (w.alloc (.cells #[.int .u8 t0, .int .u8 t1, .int .u8 t2, .int .u8 t3, .int .u8 t4, .int .u8 t5, .int .u8 f0, .int .u8 f1, .int .u8 f2, .int .u8 f3, .int .u8 f4, .int .u8 f5, .int .i64 tid, .int .i64 seq] 25)) (.cells #[.int .u8 t0, .int .u8 t1, .int .u8 t2, .int .u8 t3, .int .u8 t4, .int .u8 t5, .int .u8 f0, .int .u8 f1, .int .u8 f2, .int .u8 f3, .int .u8 f4, .int .u8 f5, .int .i64 tid, .int .i64 seq] 25)
    simp only [show ∀ (w : World) (o : Obj), (w.alloc o).heap.size = w.heap.size + 1 from fun w o => by simp] at h
    exact (k.block (w.heap.size + 1) (by simp) (by simp)).trans h
  have hg0 : Gro none w ((w.alloc (.cells #[.int .u8 t0, .int .u8 t1, .int .u8 t2, .int .u8 t3, .int .u8 t4, .int .u8 t5, .int .u8 f0, .int .u8 f1, .int .u8 f2, .int .u8 f3, .int .u8 f4, .int .u8 f5, .int .i64 tid, .int .i64 seq] 25)).alloc (.cells #[.int .u8 t0, .int .u8 t1, .int .u8 t2, .int .u8 t3, .int .u8 t4, .int .u8 t5, .int .u8 f0, .int .u8 f1, .int .u8 f2, .int .u8 f3, .int .u8 f4, .int .u8 f5, .int .i64 tid, .int .i64 seq] 25)) := ((Gro.refl _ _).alloc _).alloc _
  have HC := Lib.hid hc
  have HD := Lib.hid hd
  have HG0 := Lib.hid hg0
  clear hc hd hg0
  go_enter Tryd.func25, Tryd.ntmps25
  go_wp2_with fail
  generalize ((w.alloc (.cells #[.int .u8 t0, .int .u8 t1, .int .u8 t2, .int .u8 t3, .int .u8 t4, .int .u8 t5, .int .u8 f0, .int .u8 f1, .int .u8 f2, .int .u8 f3, .int .u8 f4, .int .u8 f5, .int .i64 tid, .int .i64 seq] 25)).alloc (.cells #[.int .u8 t0, .int .u8 t1, .int .u8 t2, .int .u8 t3, .int .u8 t4, .int .u8 t5, .int .u8 f0, .int .u8 f1, .int .u8 f2, .int .u8 f3, .int .u8 f4, .int .u8 f5, .int .i64 tid, .int .i64 seq] 25)) = wb at *
  refine (HA.out _).mono ?_
  rintro e w1 ⟨rfl, hg⟩
  have HG := Lib.hid hg
  clear hg
  have c6 := cell_of_row w1 w.heap.size 6 _ _ _ (HC.out _ HG.out)
  have c7 := cell_of_row w1 w.heap.size 7 _ _ _ (HC.out _ HG.out)
  have c8 := cell_of_row w1 w.heap.size 8 _ _ _ (HC.out _ HG.out)
  have c9 := cell_of_row w1 w.heap.size 9 _ _ _ (HC.out _ HG.out)
  have c10 := cell_of_row w1 w.heap.size 10 _ _ _ (HC.out _ HG.out)
  have c11 := cell_of_row w1 w.heap.size 11 _ _ _ (HC.out _ HG.out)
  have d6 := cell_of_row w1 (w.heap.size + 1) 6 _ _ _ (HD.out _ HG.out)
  have d7 := cell_of_row w1 (w.heap.size + 1) 7 _ _ _ (HD.out _ HG.out)
  have d8 := cell_of_row w1 (w.heap.size + 1) 8 _ _ _ (HD.out _ HG.out)
  have d9 := cell_of_row w1 (w.heap.size + 1) 9 _ _ _ (HD.out _ HG.out)
  have d10 := cell_of_row w1 (w.heap.size + 1) 10 _ _ _ (HD.out _ HG.out)
  have d11 := cell_of_row w1 (w.heap.size + 1) 11 _ _ _ (HD.out _ HG.out)
  simp only [List.getElem?_toArray, List.getElem?_cons_zero, List.getElem?_cons_succ] at c6 c7 c8 c9 c10 c11 d6 d7 d8 d9 d10 d11
  go_wp2_with fail
  refine (HB.out _).mono ?_
  rintro e w2 ⟨rfl, hg⟩
  have HG := Lib.hid (HG.out.trans hg)
  clear hg c6 c7 c8 c9 c10 c11 d6 d7 d8 d9 d10 d11
  have c12 := cell_of_row w2 w.heap.size 12 _ _ _ (HC.out _ HG.out)
  have c13 := cell_of_row w2 w.heap.size 13 _ _ _ (HC.out _ HG.out)
  have d12 := cell_of_row w2 (w.heap.size + 1) 12 _ _ _ (HD.out _ HG.out)
  have d13 := cell_of_row w2 (w.heap.size + 1) 13 _ _ _ (HD.out _ HG.out)
  simp only [List.getElem?_toArray, List.getElem?_cons_zero, List.getElem?_cons_succ] at c12 c13 d12 d13
  go_wp2_with fail
  go_ret
  exact ⟨rfl, HG0.out.trans HG.out⟩

theorem samePoll_self (aid : Int) (to fr : Ad) (w : World) : Calls Tryd.prog 26 #[pollV aid to fr, pollV aid to fr] w fun e w' => e = .returned (.bool true) ∧ Gro none w w' := by
  have HA := Lib.hid (fun w' => sameAddr_self to w')
  have HB := Lib.hid (fun w' => sameAddr_self fr w')
  obtain ⟨t0, t1, t2, t3, t4, t5⟩ := to
  obtain ⟨f0, f1, f2, f3, f4, f5⟩ := fr
  unfold pollV
  unfold adV at HA HB
  simp only at HA HB ⊢
  have hc : ∀ w', Gro none ((w.alloc (.cells #[.int .i64 aid, .int .u8 t0, .int .u8 t1, .int .u8 t2, .int .u8 t3, .int .u8 t4, .int .u8 t5, .int .u8 f0, .int .u8 f1, .int .u8 f2, .int .u8 f3, .int .u8 f4, .int .u8 f5] 30)).alloc (.cells #[.int .i64 aid, .int .u8 t0, .int .u8 t1, .int .u8 t2, .int .u8 t3, .int .u8 t4, .int .u8 t5, .int .u8 f0, .int .u8 f1, .int .u8 f2, .int .u8 f3, .int .u8 f4, .int .u8 f5] 30)) w' → w'.heap[w.heap.size]? = some (.cells #[.int .i64 aid, .int .u8 t0, .int .u8 t1, .int .u8 t2, .int .u8 t3, .int .u8 t4, .int .u8 t5, .int .u8 f0, .int .u8 f1, .int .u8 f2, .int .u8 f3, .int .u8 f4, .int .u8 f5] 30 (0, 0)) := fun w' k => (k.block w.heap.size (by simp; omega) (by simp)).trans ((Below.heap_alloc _ _ _ (by simp)).trans (heap_alloc_new w _))
  have hd : ∀ w', Gro none ((w.alloc (.cells #[.int .i64 aid, .int .u8 t0, .int .u8 t1, .int .u8 t2, .int .u8 t3, .int .u8 t4, .int .u8 t5, .int .u8 f0, .int .u8 f1, .int .u8 f2, .int .u8 f3, .int .u8 f4, .int .u8 f5] 30)).alloc (.cells #[.int .i64 aid, .int .u8 t0, .int .u8 t1, .int .u8 t2, .int .u8 t3, .int .u8 t4, .int .u8 t5, .int .u8 f0, .int .u8 f1, .int .u8 f2, .int .u8 f3, .int .u8 f4, .int .u8 f5] 30)) w' → w'.heap[w.heap.size + 1]? = some (.cells #[.int .i64 aid, .int .u8 t0, .int .u8 t1, .int .u8 t2, .int .u8 t3, .int .u8 t4, .int .u8 t5, .int .u8 f0, .int .u8 f1, .int .u8 f2, .int .u8 f3, .int .u8 f4, .int .u8 f5] 30 (0, 0)) := fun w' k => by
    have h := heap_alloc_new (w.alloc (.cells #[.int .i64 aid, .int .u8 t0, .int .u8 t1, .int .u8 t2, .int .u8 t3, .int .u8 t4, .int .u8 t5, .int .u8 f0, .int .u8 f1, .int .u8 f2, .int .u8 f3, .int .u8 f4, .int .u8 f5] 30)) (.cells #[.int .i64 aid, .int .u8 t0, .int .u8 t1, .int .u8 t2, .int .u8 t3, .int .u8 t4, .int .u8 t5, .int .u8 f0, .int .u8 f1, .int .u8 f2, .int .u8 f3, .int .u8 f4, .int .u8 f5] 30)
    simp only [show ∀ (w : World) (o : Obj), (w.alloc o).heap.size = w.heap.size + 1 from fun w o => by simp] at h
    exact (k.block (w.heap.size + 1) (by simp) (by simp)).trans h
  have hg0 : Gro none w ((w.alloc (.cells #[.int .i64 aid, .int .u8 t0, .int .u8 t1, .int .u8 t2, .int .u8 t3, .int .u8 t4, .int .u8 t5, .int .u8 f0, .int .u8 f1, .int .u8 f2, .int .u8 f3, .int .u8 f4, .int .u8 f5] 30)).alloc (.cells #[.int .i64 aid, .int .u8 t0, .int .u8 t1, .int .u8 t2, .int .u8 t3, .int .u8 t4, .int .u8 t5, .int .u8 f0, .int .u8 f1, .int .u8 f2, .int .u8 f3, .int .u8 f4, .int .u8 f5] 30)) := ((Gro.refl _ _).alloc _).alloc _
  have HC := Lib.hid hc
  have HD := Lib.hid hd
  have HG0 := Lib.hid hg0
  clear hc hd hg0
  go_enter Tryd.func26, Tryd.ntmps26
  go_wp2_with fail
  generalize ((w.alloc (.cells #[.int .i64 aid, .int .u8 t0, .int .u8 t1, .int .u8 t2, .int .u8 t3, .int .u8 t4, .int .u8 t5, .int .u8 f0, .int .u8 f1, .int .u8 f2, .int .u8 f3, .int .u8 f4, .int .u8 f5] 30)).alloc (.cells #[.int .i64 aid, .int .u8 t0, .int .u8 t1, .int .u8 t2, .int .u8 t3, .int .u8 t4, .int .u8 t5, .int .u8 f0, .int .u8 f1, .int .u8 f2, .int .u8 f3, .int .u8 f4, .int .u8 f5] 30)) = wb at *
  refine (HA.out _).mono ?_
  rintro e w1 ⟨rfl, hg⟩
  have HG := Lib.hid hg
  clear hg
  have c7 := cell_of_row w1 w.heap.size 7 _ _ _ (HC.out _ HG.out)
  have c8 := cell_of_row w1 w.heap.size 8 _ _ _ (HC.out _ HG.out)
  have c9 := cell_of_row w1 w.heap.size 9 _ _ _ (HC.out _ HG.out)
  have c10 := cell_of_row w1 w.heap.size 10 _ _ _ (HC.out _ HG.out)
  have c11 := cell_of_row w1 w.heap.size 11 _ _ _ (HC.out _ HG.out)
  have c12 := cell_of_row w1 w.heap.size 12 _ _ _ (HC.out _ HG.out)
  have d7 := cell_of_row w1 (w.heap.size + 1) 7 _ _ _ (HD.out _ HG.out)
  have d8 := cell_of_row w1 (w.heap.size + 1) 8 _ _ _ (HD.out _ HG.out)
  have d9 := cell_of_row w1 (w.heap.size + 1) 9 _ _ _ (HD.out _ HG.out)
  have d10 := cell_of_row w1 (w.heap.size + 1) 10 _ _ _ (HD.out _ HG.out)
  have d11 := cell_of_row w1 (w.heap.size + 1) 11 _ _ _ (HD.out _ HG.out)
  have d12 := cell_of_row w1 (w.heap.size + 1) 12 _ _ _ (HD.out _ HG.out)
  simp only [List.getElem?_toArray, List.getElem?_cons_zero, List.getElem?_cons_succ] at c7 c8 c9 c10 c11 c12 d7 d8 d9 d10 d11 d12
  go_wp2_with fail
  refine (HB.out _).mono ?_
  rintro e w2 ⟨rfl, hg⟩
  have HG := Lib.hid (HG.out.trans hg)
  clear hg c7 c8 c9 c10 c11 c12 d7 d8 d9 d10 d11 d12
  go_wp2_with fail
  go_ret
  exact ⟨rfl, HG0.out.trans HG.out⟩
end Go.Proofs.YtadcpoglkmklhaaDoor
