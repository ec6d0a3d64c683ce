/-
  muezzinref.SameBar, SameAck, SamePoll: they answer whether two frames are the same. No condition.
-/
import Derived.Test.YtadcpoglkmklhaaDoorCtlW
import Derived.Test.YtadcpoglkmklhaaDoorSame
namespace Go.Proofs.YtadcpoglkmklhaaDoor
open Go.RowKit

theorem adL_inj {x y : Ad} (h : adL x = adL y) : x = y := by
  cases x; cases y
  simp [adL] at h
  simp [h]
instance : DecidableEq Ad := fun _ _ => decidable_of_iff _ ⟨adL_inj, fun h => by rw [h]⟩
theorem sameAck_any (to fr to' fr' : Ad) (tid seq m tid' seq' m' : Int) (w : World) :
    Calls Tryd.prog 19 #[ackV to fr tid seq m, ackV to' fr' tid' seq' m'] w fun e w' => e = .returned (.bool (decide (to = to' ∧ fr = fr' ∧ tid = tid' ∧ seq = seq' ∧ m = m'))) ∧ Gro none w w' := by
  have HA := Lib.hid (fun w' => sameAddr_any to to' w')
  have HB := Lib.hid (fun w' => sameAddr_any fr fr' w')
  have hd : decide (to = to' ∧ fr = fr' ∧ tid = tid' ∧ seq = seq' ∧ m = m') = (decide (adL to = adL to') && (decide (adL fr = adL fr') && ((tid == tid') && ((seq == seq') && (m == m'))))) := by
    have e1 : adL to = adL to' ↔ to = to' := ⟨adL_inj, fun h => by rw [h]⟩
    have e2 : adL fr = adL fr' ↔ fr = fr' := ⟨adL_inj, fun h => by rw [h]⟩
    rw [Bool.eq_iff_iff]
    simp [e1, e2]
  rw [hd]
  clear hd
  generalize decide (adL to = adL to') = p at *
  generalize decide (adL fr = adL fr') = q at *
  obtain ⟨t0, t1, t2, t3, t4, t5⟩ := to
  obtain ⟨f0, f1, f2, f3, f4, f5⟩ := fr
  obtain ⟨s0, s1, s2, s3, s4, s5⟩ := to'
  obtain ⟨r0, r1, r2, r3, r4, r5⟩ := fr'
  unfold ackV adV at *
  simp only at HA HB ⊢
  generalize hx : (tid == tid') = x
  generalize hy : (seq == seq') = y
  generalize hz : (m == m') = z
  go_enter Tryd.func19, Tryd.ntmps19
  go_wp2_with fail
  generalize hwb : (w.alloc _).alloc _ = wb
  have hg0 : Gro none w wb := hwb ▸ ((Gro.refl _ _).alloc _).alloc _
  have hA : wb.heap[w.heap.size]? = some (.cells #[.int .u8 t0, .int .u8 t1, .int .u8 t2, .int .u8 t3, .int .u8 t4, .int .u8 t5, .int .u8 f0, .int .u8 f1, .int .u8 f2, .int .u8 f3, .int .u8 f4, .int .u8 f5, .int .i64 tid, .int .i64 seq, .int .u64 m] 28 (0, 0)) := by rw [← hwb]; exact (Below.heap_alloc _ _ _ (by simp)).trans (heap_alloc_new w _)
  have hB : wb.heap[w.heap.size + 1]? = some (.cells #[.int .u8 s0, .int .u8 s1, .int .u8 s2, .int .u8 s3, .int .u8 s4, .int .u8 s5, .int .u8 r0, .int .u8 r1, .int .u8 r2, .int .u8 r3, .int .u8 r4, .int .u8 r5, .int .i64 tid', .int .i64 seq', .int .u64 m'] 28 (0, 0)) := by
    have := heap_alloc_new (w.alloc (.cells #[.int .u8 t0, .int .u8 t1, .int .u8 t2, .int .u8 t3, .int .u8 t4, .int .u8 t5, .int .u8 f0, .int .u8 f1, .int .u8 f2, .int .u8 f3, .int .u8 f4, .int .u8 f5, .int .i64 tid, .int .i64 seq, .int .u64 m] 28)) (.cells #[.int .u8 s0, .int .u8 s1, .int .u8 s2, .int .u8 s3, .int .u8 s4, .int .u8 s5, .int .u8 r0, .int .u8 r1, .int .u8 r2, .int .u8 r3, .int .u8 r4, .int .u8 r5, .int .i64 tid', .int .i64 seq', .int .u64 m'] 28)
    simp only [show ∀ (w : World) (o : Obj), (w.alloc o).heap.size = w.heap.size + 1 from fun w o => by simp] at this
    rw [← hwb]; exact this
  have HC := Lib.hid (And.intro hg0 (And.intro hA hB))
  clear hwb hg0 hA hB
  refine (HA.out _).mono ?_
  rintro e w1 ⟨rfl, hg1⟩
  have HC1 := Lib.hid (And.intro (HC.out.1.trans hg1) (And.intro ((hg1.block _ (block_lt_of_cell (cell_of_row _ _ 0 _ _ _ HC.out.2.1)) (by simp)).trans HC.out.2.1) ((hg1.block _ (block_lt_of_cell (cell_of_row _ _ 0 _ _ _ HC.out.2.2)) (by simp)).trans HC.out.2.2)))
  clear hg1
  cases p with
  | false =>
    go_wp2_with fail
    go_ret
    exact ⟨rfl, HC1.out.1⟩
  | true =>
    have c6 := cell_of_row w1 w.heap.size 6 _ _ _ HC1.out.2.1
    have c7 := cell_of_row w1 w.heap.size 7 _ _ _ HC1.out.2.1
    have c8 := cell_of_row w1 w.heap.size 8 _ _ _ HC1.out.2.1
    have c9 := cell_of_row w1 w.heap.size 9 _ _ _ HC1.out.2.1
    have c10 := cell_of_row w1 w.heap.size 10 _ _ _ HC1.out.2.1
    have c11 := cell_of_row w1 w.heap.size 11 _ _ _ HC1.out.2.1
    have d6 := cell_of_row w1 (w.heap.size + 1) 6 _ _ _ HC1.out.2.2
    have d7 := cell_of_row w1 (w.heap.size + 1) 7 _ _ _ HC1.out.2.2
    have d8 := cell_of_row w1 (w.heap.size + 1) 8 _ _ _ HC1.out.2.2
    have d9 := cell_of_row w1 (w.heap.size + 1) 9 _ _ _ HC1.out.2.2
    have d10 := cell_of_row w1 (w.heap.size + 1) 10 _ _ _ HC1.out.2.2
    have d11 := cell_of_row w1 (w.heap.size + 1) 11 _ _ _ HC1.out.2.2
    simp only [List.getElem?_toArray, List.getElem?_cons_zero, List.getElem?_cons_succ] at c6 c7 c8 c9 c10 c11 d6 d7 d8 d9 d10 d11
    go_wp2_with fail
    refine (HB.out _).mono ?_
    rintro e w2 ⟨rfl, hg2⟩
    have HC2 := Lib.hid (And.intro (HC1.out.1.trans hg2) (And.intro ((hg2.block _ (block_lt_of_cell (cell_of_row _ _ 0 _ _ _ HC1.out.2.1)) (by simp)).trans HC1.out.2.1) ((hg2.block _ (block_lt_of_cell (cell_of_row _ _ 0 _ _ _ HC1.out.2.2)) (by simp)).trans HC1.out.2.2)))
    clear hg2 c6 c7 c8 c9 c10 c11 d6 d7 d8 d9 d10 d11
    cases q with
    | false =>
      go_wp2_with fail
      go_ret
      exact ⟨rfl, HC2.out.1⟩
    | true =>
      have c12 := cell_of_row w2 w.heap.size 12 _ _ _ HC2.out.2.1
      have c13 := cell_of_row w2 w.heap.size 13 _ _ _ HC2.out.2.1
      have c14 := cell_of_row w2 w.heap.size 14 _ _ _ HC2.out.2.1
      have d12 := cell_of_row w2 (w.heap.size + 1) 12 _ _ _ HC2.out.2.2
      have d13 := cell_of_row w2 (w.heap.size + 1) 13 _ _ _ HC2.out.2.2
      have d14 := cell_of_row w2 (w.heap.size + 1) 14 _ _ _ HC2.out.2.2
      simp only [List.getElem?_toArray, List.getElem?_cons_zero, List.getElem?_cons_succ] at c12 c13 c14 d12 d13 d14
      cases x
      all_goals cases y
      all_goals
        go_wp2_with fail
        go_ret
        exact ⟨by first | rfl | simp [hz] | simp_all, HC2.out.1⟩
end Go.Proofs.YtadcpoglkmklhaaDoor
