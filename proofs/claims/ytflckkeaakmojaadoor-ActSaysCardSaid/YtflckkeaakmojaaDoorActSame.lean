/-
  muezzinref.SameAdd, SameDel: they answer whether two frames are the same. No condition.
-/
import Derived.Test.YtflckkeaakmojaaDoorActW
import Derived.Test.YtflckkeaakmojaaDoorSame
namespace Go.Proofs.YtflckkeaakmojaaDoor
open Go.RowKit

theorem adL_inj {x y : Ad} (h : adL x = adL y) : x = y := by
  cases x; cases y
  simp [adL] at h
  simp [h]
instance : DecidableEq Ad := fun _ _ => decidable_of_iff _ ⟨adL_inj, fun h => by rw [h]⟩

set_option maxHeartbeats 2000000 in
set_option maxRecDepth 100000 in
theorem sameAdd_any (ta fr bs ta' fr' bs' : Ad) (ans ans' : Bool) (tok tid size tmo seq st tok' tid' size' tmo' seq' st' : Int) (w : World) :
    Calls Tryd.prog 13 #[addV ta fr bs ans tok tid size tmo seq st, addV ta' fr' bs' ans' tok' tid' size' tmo' seq' st'] w fun e w' => e = .returned (.bool (decide (ta = ta' ∧ fr = fr' ∧ bs = bs' ∧ ans = ans' ∧ tok = tok' ∧ tid = tid' ∧ size = size' ∧ tmo = tmo' ∧ seq = seq' ∧ st = st'))) ∧ Gro none w w' := by
  have HA := Lib.hid (fun w' => sameAddr_any ta ta' w')
  have HB := Lib.hid (fun w' => sameAddr_any fr fr' w')
  have HD := Lib.hid (fun w' => sameAddr_any bs bs' w')
  have hd : decide (ta = ta' ∧ fr = fr' ∧ bs = bs' ∧ ans = ans' ∧ tok = tok' ∧ tid = tid' ∧ size = size' ∧ tmo = tmo' ∧ seq = seq' ∧ st = st') = (decide (adL ta = adL ta') && (decide (adL fr = adL fr') && (decide (adL bs = adL bs') && (ans == ans') && ((tok == tok') && ((tid == tid') && ((size == size') && ((tmo == tmo') && ((seq == seq') && ((st == st')))))))))) := by
    have e1 : adL ta = adL ta' ↔ ta = ta' := ⟨adL_inj, fun h => by rw [h]⟩
    have e2 : adL fr = adL fr' ↔ fr = fr' := ⟨adL_inj, fun h => by rw [h]⟩
    have e3 : adL bs = adL bs' ↔ bs = bs' := ⟨adL_inj, fun h => by rw [h]⟩
    rw [Bool.eq_iff_iff]
    simp [e1, e2, e3, and_assoc]
  rw [hd]
  clear hd
  generalize decide (adL ta = adL ta') = p1 at *
  generalize decide (adL fr = adL fr') = p2 at *
  generalize decide (adL bs = adL bs') = p3 at *
  obtain ⟨t0, t1, t2, t3, t4, t5⟩ := ta
  obtain ⟨f0, f1, f2, f3, f4, f5⟩ := fr
  obtain ⟨b0, b1, b2, b3, b4, b5⟩ := bs
  obtain ⟨s0, s1, s2, s3, s4, s5⟩ := ta'
  obtain ⟨r0, r1, r2, r3, r4, r5⟩ := fr'
  obtain ⟨q0, q1, q2, q3, q4, q5⟩ := bs'
  unfold addV
  unfold adV at HA HB HD
  simp only at HA HB HD ⊢
  generalize hx0 : (ans == ans') = x0
  generalize hx1 : (tok == tok') = x1
  generalize hx2 : (tid == tid') = x2
  generalize hx3 : (size == size') = x3
  generalize hx4 : (tmo == tmo') = x4
  generalize hx5 : (seq == seq') = x5
  generalize hx6 : (st == st') = x6
  go_enter Tryd.func13, Tryd.ntmps13
  go_wp2_with fail
  have hg0 : Gro none w ((w.alloc (.cells #[.int .u8 t0, .int .u8 t1, .int .u8 t2, .int .u8 t3, .int .u8 t4, .int .u8 t5, .int .u8 f0, .int .u8 f1, .int .u8 f2, .int .u8 f3, .int .u8 f4, .int .u8 f5, .int .u8 b0, .int .u8 b1, .int .u8 b2, .int .u8 b3, .int .u8 b4, .int .u8 b5, .bool ans, .int .i64 tok, .int .i64 tid, .int .i64 size, .int .i64 tmo, .int .i64 seq, .int .i64 st] 27)).alloc (.cells #[.int .u8 s0, .int .u8 s1, .int .u8 s2, .int .u8 s3, .int .u8 s4, .int .u8 s5, .int .u8 r0, .int .u8 r1, .int .u8 r2, .int .u8 r3, .int .u8 r4, .int .u8 r5, .int .u8 q0, .int .u8 q1, .int .u8 q2, .int .u8 q3, .int .u8 q4, .int .u8 q5, .bool ans', .int .i64 tok', .int .i64 tid', .int .i64 size', .int .i64 tmo', .int .i64 seq', .int .i64 st'] 27)) := ((Gro.refl _ _).alloc _).alloc _
  have hA : ((w.alloc (.cells #[.int .u8 t0, .int .u8 t1, .int .u8 t2, .int .u8 t3, .int .u8 t4, .int .u8 t5, .int .u8 f0, .int .u8 f1, .int .u8 f2, .int .u8 f3, .int .u8 f4, .int .u8 f5, .int .u8 b0, .int .u8 b1, .int .u8 b2, .int .u8 b3, .int .u8 b4, .int .u8 b5, .bool ans, .int .i64 tok, .int .i64 tid, .int .i64 size, .int .i64 tmo, .int .i64 seq, .int .i64 st] 27)).alloc (.cells #[.int .u8 s0, .int .u8 s1, .int .u8 s2, .int .u8 s3, .int .u8 s4, .int .u8 s5, .int .u8 r0, .int .u8 r1, .int .u8 r2, .int .u8 r3, .int .u8 r4, .int .u8 r5, .int .u8 q0, .int .u8 q1, .int .u8 q2, .int .u8 q3, .int .u8 q4, .int .u8 q5, .bool ans', .int .i64 tok', .int .i64 tid', .int .i64 size', .int .i64 tmo', .int .i64 seq', .int .i64 st'] 27)).heap[w.heap.size]? = some (.cells #[.int .u8 t0, .int .u8 t1, .int .u8 t2, .int .u8 t3, .int .u8 t4, .int .u8 t5, .int .u8 f0, .int .u8 f1, .int .u8 f2, .int .u8 f3, .int .u8 f4, .int .u8 f5, .int .u8 b0, .int .u8 b1, .int .u8 b2, .int .u8 b3, .int .u8 b4, .int .u8 b5, .bool ans, .int .i64 tok, .int .i64 tid, .int .i64 size, .int .i64 tmo, .int .i64 seq, .int .i64 st] 27 (0, 0)) := (Below.heap_alloc _ _ _ (by simp)).trans (heap_alloc_new w _)
  have hB : ((w.alloc (.cells #[.int .u8 t0, .int .u8 t1, .int .u8 t2, .int .u8 t3, .int .u8 t4, .int .u8 t5, .int .u8 f0, .int .u8 f1, .int .u8 f2, .int .u8 f3, .int .u8 f4, .int .u8 f5, .int .u8 b0, .int .u8 b1, .int .u8 b2, .int .u8 b3, .int .u8 b4, .int .u8 b5, .bool ans, .int .i64 tok, .int .i64 tid, .int .i64 size, .int .i64 tmo, .int .i64 seq, .int .i64 st] 27)).alloc (.cells #[.int .u8 s0, .int .u8 s1, .int .u8 s2, .int .u8 s3, .int .u8 s4, .int .u8 s5, .int .u8 r0, .int .u8 r1, .int .u8 r2, .int .u8 r3, .int .u8 r4, .int .u8 r5, .int .u8 q0, .int .u8 q1, .int .u8 q2, .int .u8 q3, .int .u8 q4, .int .u8 q5, .bool ans', .int .i64 tok', .int .i64 tid', .int .i64 size', .int .i64 tmo', .int .i64 seq', .int .i64 st'] 27)).heap[w.heap.size + 1]? = some (.cells #[.int .u8 s0, .int .u8 s1, .int .u8 s2, .int .u8 s3, .int .u8 s4, .int .u8 s5, .int .u8 r0, .int .u8 r1, .int .u8 r2, .int .u8 r3, .int .u8 r4, .int .u8 r5, .int .u8 q0, .int .u8 q1, .int .u8 q2, .int .u8 q3, .int .u8 q4, .int .u8 q5, .bool ans', .int .i64 tok', .int .i64 tid', .int .i64 size', .int .i64 tmo', .int .i64 seq', .int .i64 st'] 27 (0, 0)) := by
    have h := heap_alloc_new (w.alloc (.cells #[.int .u8 t0, .int .u8 t1, .int .u8 t2, .int .u8 t3, .int .u8 t4, .int .u8 t5, .int .u8 f0, .int .u8 f1, .int .u8 f2, .int .u8 f3, .int .u8 f4, .int .u8 f5, .int .u8 b0, .int .u8 b1, .int .u8 b2, .int .u8 b3, .int .u8 b4, .int .u8 b5, .bool ans, .int .i64 tok, .int .i64 tid, .int .i64 size, .int .i64 tmo, .int .i64 seq, .int .i64 st] 27)) (.cells #[.int .u8 s0, .int .u8 s1, .int .u8 s2, .int .u8 s3, .int .u8 s4, .int .u8 s5, .int .u8 r0, .int .u8 r1, .int .u8 r2, .int .u8 r3, .int .u8 r4, .int .u8 r5, .int .u8 q0, .int .u8 q1, .int .u8 q2, .int .u8 q3, .int .u8 q4, .int .u8 q5, .bool ans', .int .i64 tok', .int .i64 tid', .int .i64 size', .int .i64 tmo', .int .i64 seq', .int .i64 st'] 27)
    simp only [show ∀ (w : World) (o : Obj), (w.alloc o).heap.size = w.heap.size + 1 from fun w o => by simp] at h
    exact h
  generalize (w.alloc (.cells #[.int .u8 t0, .int .u8 t1, .int .u8 t2, .int .u8 t3, .int .u8 t4, .int .u8 t5, .int .u8 f0, .int .u8 f1, .int .u8 f2, .int .u8 f3, .int .u8 f4, .int .u8 f5, .int .u8 b0, .int .u8 b1, .int .u8 b2, .int .u8 b3, .int .u8 b4, .int .u8 b5, .bool ans, .int .i64 tok, .int .i64 tid, .int .i64 size, .int .i64 tmo, .int .i64 seq, .int .i64 st] 27)).alloc (.cells #[.int .u8 s0, .int .u8 s1, .int .u8 s2, .int .u8 s3, .int .u8 s4, .int .u8 s5, .int .u8 r0, .int .u8 r1, .int .u8 r2, .int .u8 r3, .int .u8 r4, .int .u8 r5, .int .u8 q0, .int .u8 q1, .int .u8 q2, .int .u8 q3, .int .u8 q4, .int .u8 q5, .bool ans', .int .i64 tok', .int .i64 tid', .int .i64 size', .int .i64 tmo', .int .i64 seq', .int .i64 st'] 27) = wb at *
  have HC := Lib.hid (And.intro hg0 (And.intro hA hB))
  clear hg0 hA hB
  refine (HA.out _).mono ?_
  rintro e w1 ⟨rfl, hg⟩
  have HC1 := Lib.hid (And.intro (HC.out.1.trans hg) (And.intro ((hg.block _ (block_lt_of_cell (cell_of_row _ _ 0 _ _ _ HC.out.2.1)) (by simp)).trans HC.out.2.1) ((hg.block _ (block_lt_of_cell (cell_of_row _ _ 0 _ _ _ HC.out.2.2)) (by simp)).trans HC.out.2.2)))
  clear hg
  cases p1 with
  | false =>
    go_wp2_with fail
    go_ret
    exact ⟨by simp, HC1.out.1⟩
  | true =>
    have c6 := cell_of_row w1 w.heap.size 6 _ _ _ HC1.out.2.1
    have d6 := cell_of_row w1 (w.heap.size + 1) 6 _ _ _ HC1.out.2.2
    have c7 := cell_of_row w1 w.heap.size 7 _ _ _ HC1.out.2.1
    have d7 := cell_of_row w1 (w.heap.size + 1) 7 _ _ _ HC1.out.2.2
    have c8 := cell_of_row w1 w.heap.size 8 _ _ _ HC1.out.2.1
    have d8 := cell_of_row w1 (w.heap.size + 1) 8 _ _ _ HC1.out.2.2
    have c9 := cell_of_row w1 w.heap.size 9 _ _ _ HC1.out.2.1
    have d9 := cell_of_row w1 (w.heap.size + 1) 9 _ _ _ HC1.out.2.2
    have c10 := cell_of_row w1 w.heap.size 10 _ _ _ HC1.out.2.1
    have d10 := cell_of_row w1 (w.heap.size + 1) 10 _ _ _ HC1.out.2.2
    have c11 := cell_of_row w1 w.heap.size 11 _ _ _ HC1.out.2.1
    have d11 := cell_of_row w1 (w.heap.size + 1) 11 _ _ _ HC1.out.2.2
    simp only [List.getElem?_toArray, List.getElem?_cons_zero, List.getElem?_cons_succ] at c6 d6 c7 d7 c8 d8 c9 d9 c10 d10 c11 d11
    go_wp2_with fail
    refine (HB.out _).mono ?_
    rintro e w2 ⟨rfl, hg⟩
    have HC2 := Lib.hid (And.intro (HC1.out.1.trans hg) (And.intro ((hg.block _ (block_lt_of_cell (cell_of_row _ _ 0 _ _ _ HC1.out.2.1)) (by simp)).trans HC1.out.2.1) ((hg.block _ (block_lt_of_cell (cell_of_row _ _ 0 _ _ _ HC1.out.2.2)) (by simp)).trans HC1.out.2.2)))
    clear hg c6 d6 c7 d7 c8 d8 c9 d9 c10 d10 c11 d11
    cases p2 with
    | false =>
      go_wp2_with fail
      go_ret
      exact ⟨by simp, HC2.out.1⟩
    | true =>
      have c12 := cell_of_row w2 w.heap.size 12 _ _ _ HC2.out.2.1
      have d12 := cell_of_row w2 (w.heap.size + 1) 12 _ _ _ HC2.out.2.2
      have c13 := cell_of_row w2 w.heap.size 13 _ _ _ HC2.out.2.1
      have d13 := cell_of_row w2 (w.heap.size + 1) 13 _ _ _ HC2.out.2.2
      have c14 := cell_of_row w2 w.heap.size 14 _ _ _ HC2.out.2.1
      have d14 := cell_of_row w2 (w.heap.size + 1) 14 _ _ _ HC2.out.2.2
      have c15 := cell_of_row w2 w.heap.size 15 _ _ _ HC2.out.2.1
      have d15 := cell_of_row w2 (w.heap.size + 1) 15 _ _ _ HC2.out.2.2
      have c16 := cell_of_row w2 w.heap.size 16 _ _ _ HC2.out.2.1
      have d16 := cell_of_row w2 (w.heap.size + 1) 16 _ _ _ HC2.out.2.2
      have c17 := cell_of_row w2 w.heap.size 17 _ _ _ HC2.out.2.1
      have d17 := cell_of_row w2 (w.heap.size + 1) 17 _ _ _ HC2.out.2.2
      simp only [List.getElem?_toArray, List.getElem?_cons_zero, List.getElem?_cons_succ] at c12 d12 c13 d13 c14 d14 c15 d15 c16 d16 c17 d17
      go_wp2_with fail
      refine (HD.out _).mono ?_
      rintro e w3 ⟨rfl, hg⟩
      have HC3 := Lib.hid (And.intro (HC2.out.1.trans hg) (And.intro ((hg.block _ (block_lt_of_cell (cell_of_row _ _ 0 _ _ _ HC2.out.2.1)) (by simp)).trans HC2.out.2.1) ((hg.block _ (block_lt_of_cell (cell_of_row _ _ 0 _ _ _ HC2.out.2.2)) (by simp)).trans HC2.out.2.2)))
      clear hg c12 d12 c13 d13 c14 d14 c15 d15 c16 d16 c17 d17
      cases p3 with
      | false =>
        go_wp2_with fail
        go_ret
        exact ⟨by simp, HC3.out.1⟩
      | true =>
        have c18 := cell_of_row w3 w.heap.size 18 _ _ _ HC3.out.2.1
        have d18 := cell_of_row w3 (w.heap.size + 1) 18 _ _ _ HC3.out.2.2
        have c19 := cell_of_row w3 w.heap.size 19 _ _ _ HC3.out.2.1
        have d19 := cell_of_row w3 (w.heap.size + 1) 19 _ _ _ HC3.out.2.2
        have c20 := cell_of_row w3 w.heap.size 20 _ _ _ HC3.out.2.1
        have d20 := cell_of_row w3 (w.heap.size + 1) 20 _ _ _ HC3.out.2.2
        have c21 := cell_of_row w3 w.heap.size 21 _ _ _ HC3.out.2.1
        have d21 := cell_of_row w3 (w.heap.size + 1) 21 _ _ _ HC3.out.2.2
        have c22 := cell_of_row w3 w.heap.size 22 _ _ _ HC3.out.2.1
        have d22 := cell_of_row w3 (w.heap.size + 1) 22 _ _ _ HC3.out.2.2
        have c23 := cell_of_row w3 w.heap.size 23 _ _ _ HC3.out.2.1
        have d23 := cell_of_row w3 (w.heap.size + 1) 23 _ _ _ HC3.out.2.2
        have c24 := cell_of_row w3 w.heap.size 24 _ _ _ HC3.out.2.1
        have d24 := cell_of_row w3 (w.heap.size + 1) 24 _ _ _ HC3.out.2.2
        simp only [List.getElem?_toArray, List.getElem?_cons_zero, List.getElem?_cons_succ] at c18 d18 c19 d19 c20 d20 c21 d21 c22 d22 c23 d23 c24 d24
        cases x0 with
        | false =>
          go_wp2_with fail
          go_ret
          exact ⟨by simp, HC3.out.1⟩
        | true =>
          cases x1 with
          | false =>
            go_wp2_with fail
            go_ret
            exact ⟨by simp, HC3.out.1⟩
          | true =>
            cases x2 with
            | false =>
              go_wp2_with fail
              go_ret
              exact ⟨by simp, HC3.out.1⟩
            | true =>
              cases x3 with
              | false =>
                go_wp2_with fail
                go_ret
                exact ⟨by simp, HC3.out.1⟩
              | true =>
                cases x4 with
                | false =>
                  go_wp2_with fail
                  go_ret
                  exact ⟨by simp, HC3.out.1⟩
                | true =>
                  cases x5 with
                  | false =>
                    go_wp2_with fail
                    go_ret
                    exact ⟨by simp, HC3.out.1⟩
                  | true =>
                    go_wp2_with fail
                    go_ret
                    exact ⟨by first | rfl | simp [hx6], HC3.out.1⟩

set_option maxHeartbeats 2000000 in
set_option maxRecDepth 100000 in
theorem sameDel_any (ta fr bs ta' fr' bs' : Ad) (mine mine' : Bool) (tid reason tid' reason' : Int) (w : World) :
    Calls Tryd.prog 20 #[delV ta fr bs mine tid reason, delV ta' fr' bs' mine' tid' reason'] w fun e w' => e = .returned (.bool (decide (ta = ta' ∧ fr = fr' ∧ bs = bs' ∧ mine = mine' ∧ tid = tid' ∧ reason = reason'))) ∧ Gro none w w' := by
  have HA := Lib.hid (fun w' => sameAddr_any ta ta' w')
  have HB := Lib.hid (fun w' => sameAddr_any fr fr' w')
  have HD := Lib.hid (fun w' => sameAddr_any bs bs' w')
  have hd : decide (ta = ta' ∧ fr = fr' ∧ bs = bs' ∧ mine = mine' ∧ tid = tid' ∧ reason = reason') = (decide (adL ta = adL ta') && (decide (adL fr = adL fr') && (decide (adL bs = adL bs') && (mine == mine') && ((tid == tid') && ((reason == reason')))))) := by
    have e1 : adL ta = adL ta' ↔ ta = ta' := ⟨adL_inj, fun h => by rw [h]⟩
    have e2 : adL fr = adL fr' ↔ fr = fr' := ⟨adL_inj, fun h => by rw [h]⟩
    have e3 : adL bs = adL bs' ↔ bs = bs' := ⟨adL_inj, fun h => by rw [h]⟩
    rw [Bool.eq_iff_iff]
    simp [e1, e2, e3, and_assoc]
  rw [hd]
  clear hd
  generalize decide (adL ta = adL ta') = p1 at *
  generalize decide (adL fr = adL fr') = p2 at *
  generalize decide (adL bs = adL bs') = p3 at *
  obtain ⟨t0, t1, t2, t3, t4, t5⟩ := ta
  obtain ⟨f0, f1, f2, f3, f4, f5⟩ := fr
  obtain ⟨b0, b1, b2, b3, b4, b5⟩ := bs
  obtain ⟨s0, s1, s2, s3, s4, s5⟩ := ta'
  obtain ⟨r0, r1, r2, r3, r4, r5⟩ := fr'
  obtain ⟨q0, q1, q2, q3, q4, q5⟩ := bs'
  unfold delV
  unfold adV at HA HB HD
  simp only at HA HB HD ⊢
  generalize hx0 : (mine == mine') = x0
  generalize hx1 : (tid == tid') = x1
  generalize hx2 : (reason == reason') = x2
  go_enter Tryd.func20, Tryd.ntmps20
  go_wp2_with fail
  have hg0 : Gro none w ((w.alloc (.cells #[.int .u8 t0, .int .u8 t1, .int .u8 t2, .int .u8 t3, .int .u8 t4, .int .u8 t5, .int .u8 f0, .int .u8 f1, .int .u8 f2, .int .u8 f3, .int .u8 f4, .int .u8 f5, .int .u8 b0, .int .u8 b1, .int .u8 b2, .int .u8 b3, .int .u8 b4, .int .u8 b5, .bool mine, .int .i64 tid, .int .i64 reason] 36)).alloc (.cells #[.int .u8 s0, .int .u8 s1, .int .u8 s2, .int .u8 s3, .int .u8 s4, .int .u8 s5, .int .u8 r0, .int .u8 r1, .int .u8 r2, .int .u8 r3, .int .u8 r4, .int .u8 r5, .int .u8 q0, .int .u8 q1, .int .u8 q2, .int .u8 q3, .int .u8 q4, .int .u8 q5, .bool mine', .int .i64 tid', .int .i64 reason'] 36)) := ((Gro.refl _ _).alloc _).alloc _
  have hA : ((w.alloc (.cells #[.int .u8 t0, .int .u8 t1, .int .u8 t2, .int .u8 t3, .int .u8 t4, .int .u8 t5, .int .u8 f0, .int .u8 f1, .int .u8 f2, .int .u8 f3, .int .u8 f4, .int .u8 f5, .int .u8 b0, .int .u8 b1, .int .u8 b2, .int .u8 b3, .int .u8 b4, .int .u8 b5, .bool mine, .int .i64 tid, .int .i64 reason] 36)).alloc (.cells #[.int .u8 s0, .int .u8 s1, .int .u8 s2, .int .u8 s3, .int .u8 s4, .int .u8 s5, .int .u8 r0, .int .u8 r1, .int .u8 r2, .int .u8 r3, .int .u8 r4, .int .u8 r5, .int .u8 q0, .int .u8 q1, .int .u8 q2, .int .u8 q3, .int .u8 q4, .int .u8 q5, .bool mine', .int .i64 tid', .int .i64 reason'] 36)).heap[w.heap.size]? = some (.cells #[.int .u8 t0, .int .u8 t1, .int .u8 t2, .int .u8 t3, .int .u8 t4, .int .u8 t5, .int .u8 f0, .int .u8 f1, .int .u8 f2, .int .u8 f3, .int .u8 f4, .int .u8 f5, .int .u8 b0, .int .u8 b1, .int .u8 b2, .int .u8 b3, .int .u8 b4, .int .u8 b5, .bool mine, .int .i64 tid, .int .i64 reason] 36 (0, 0)) := (Below.heap_alloc _ _ _ (by simp)).trans (heap_alloc_new w _)
  have hB : ((w.alloc (.cells #[.int .u8 t0, .int .u8 t1, .int .u8 t2, .int .u8 t3, .int .u8 t4, .int .u8 t5, .int .u8 f0, .int .u8 f1, .int .u8 f2, .int .u8 f3, .int .u8 f4, .int .u8 f5, .int .u8 b0, .int .u8 b1, .int .u8 b2, .int .u8 b3, .int .u8 b4, .int .u8 b5, .bool mine, .int .i64 tid, .int .i64 reason] 36)).alloc (.cells #[.int .u8 s0, .int .u8 s1, .int .u8 s2, .int .u8 s3, .int .u8 s4, .int .u8 s5, .int .u8 r0, .int .u8 r1, .int .u8 r2, .int .u8 r3, .int .u8 r4, .int .u8 r5, .int .u8 q0, .int .u8 q1, .int .u8 q2, .int .u8 q3, .int .u8 q4, .int .u8 q5, .bool mine', .int .i64 tid', .int .i64 reason'] 36)).heap[w.heap.size + 1]? = some (.cells #[.int .u8 s0, .int .u8 s1, .int .u8 s2, .int .u8 s3, .int .u8 s4, .int .u8 s5, .int .u8 r0, .int .u8 r1, .int .u8 r2, .int .u8 r3, .int .u8 r4, .int .u8 r5, .int .u8 q0, .int .u8 q1, .int .u8 q2, .int .u8 q3, .int .u8 q4, .int .u8 q5, .bool mine', .int .i64 tid', .int .i64 reason'] 36 (0, 0)) := by
    have h := heap_alloc_new (w.alloc (.cells #[.int .u8 t0, .int .u8 t1, .int .u8 t2, .int .u8 t3, .int .u8 t4, .int .u8 t5, .int .u8 f0, .int .u8 f1, .int .u8 f2, .int .u8 f3, .int .u8 f4, .int .u8 f5, .int .u8 b0, .int .u8 b1, .int .u8 b2, .int .u8 b3, .int .u8 b4, .int .u8 b5, .bool mine, .int .i64 tid, .int .i64 reason] 36)) (.cells #[.int .u8 s0, .int .u8 s1, .int .u8 s2, .int .u8 s3, .int .u8 s4, .int .u8 s5, .int .u8 r0, .int .u8 r1, .int .u8 r2, .int .u8 r3, .int .u8 r4, .int .u8 r5, .int .u8 q0, .int .u8 q1, .int .u8 q2, .int .u8 q3, .int .u8 q4, .int .u8 q5, .bool mine', .int .i64 tid', .int .i64 reason'] 36)
    simp only [show ∀ (w : World) (o : Obj), (w.alloc o).heap.size = w.heap.size + 1 from fun w o => by simp] at h
    exact h
  generalize (w.alloc (.cells #[.int .u8 t0, .int .u8 t1, .int .u8 t2, .int .u8 t3, .int .u8 t4, .int .u8 t5, .int .u8 f0, .int .u8 f1, .int .u8 f2, .int .u8 f3, .int .u8 f4, .int .u8 f5, .int .u8 b0, .int .u8 b1, .int .u8 b2, .int .u8 b3, .int .u8 b4, .int .u8 b5, .bool mine, .int .i64 tid, .int .i64 reason] 36)).alloc (.cells #[.int .u8 s0, .int .u8 s1, .int .u8 s2, .int .u8 s3, .int .u8 s4, .int .u8 s5, .int .u8 r0, .int .u8 r1, .int .u8 r2, .int .u8 r3, .int .u8 r4, .int .u8 r5, .int .u8 q0, .int .u8 q1, .int .u8 q2, .int .u8 q3, .int .u8 q4, .int .u8 q5, .bool mine', .int .i64 tid', .int .i64 reason'] 36) = wb at *
  have HC := Lib.hid (And.intro hg0 (And.intro hA hB))
  clear hg0 hA hB
  refine (HA.out _).mono ?_
  rintro e w1 ⟨rfl, hg⟩
  have HC1 := Lib.hid (And.intro (HC.out.1.trans hg) (And.intro ((hg.block _ (block_lt_of_cell (cell_of_row _ _ 0 _ _ _ HC.out.2.1)) (by simp)).trans HC.out.2.1) ((hg.block _ (block_lt_of_cell (cell_of_row _ _ 0 _ _ _ HC.out.2.2)) (by simp)).trans HC.out.2.2)))
  clear hg
  cases p1 with
  | false =>
    go_wp2_with fail
    go_ret
    exact ⟨by simp, HC1.out.1⟩
  | true =>
    have c6 := cell_of_row w1 w.heap.size 6 _ _ _ HC1.out.2.1
    have d6 := cell_of_row w1 (w.heap.size + 1) 6 _ _ _ HC1.out.2.2
    have c7 := cell_of_row w1 w.heap.size 7 _ _ _ HC1.out.2.1
    have d7 := cell_of_row w1 (w.heap.size + 1) 7 _ _ _ HC1.out.2.2
    have c8 := cell_of_row w1 w.heap.size 8 _ _ _ HC1.out.2.1
    have d8 := cell_of_row w1 (w.heap.size + 1) 8 _ _ _ HC1.out.2.2
    have c9 := cell_of_row w1 w.heap.size 9 _ _ _ HC1.out.2.1
    have d9 := cell_of_row w1 (w.heap.size + 1) 9 _ _ _ HC1.out.2.2
    have c10 := cell_of_row w1 w.heap.size 10 _ _ _ HC1.out.2.1
    have d10 := cell_of_row w1 (w.heap.size + 1) 10 _ _ _ HC1.out.2.2
    have c11 := cell_of_row w1 w.heap.size 11 _ _ _ HC1.out.2.1
    have d11 := cell_of_row w1 (w.heap.size + 1) 11 _ _ _ HC1.out.2.2
    simp only [List.getElem?_toArray, List.getElem?_cons_zero, List.getElem?_cons_succ] at c6 d6 c7 d7 c8 d8 c9 d9 c10 d10 c11 d11
    go_wp2_with fail
    refine (HB.out _).mono ?_
    rintro e w2 ⟨rfl, hg⟩
    have HC2 := Lib.hid (And.intro (HC1.out.1.trans hg) (And.intro ((hg.block _ (block_lt_of_cell (cell_of_row _ _ 0 _ _ _ HC1.out.2.1)) (by simp)).trans HC1.out.2.1) ((hg.block _ (block_lt_of_cell (cell_of_row _ _ 0 _ _ _ HC1.out.2.2)) (by simp)).trans HC1.out.2.2)))
    clear hg c6 d6 c7 d7 c8 d8 c9 d9 c10 d10 c11 d11
    cases p2 with
    | false =>
      go_wp2_with fail
      go_ret
      exact ⟨by simp, HC2.out.1⟩
    | true =>
      have c12 := cell_of_row w2 w.heap.size 12 _ _ _ HC2.out.2.1
      have d12 := cell_of_row w2 (w.heap.size + 1) 12 _ _ _ HC2.out.2.2
      have c13 := cell_of_row w2 w.heap.size 13 _ _ _ HC2.out.2.1
      have d13 := cell_of_row w2 (w.heap.size + 1) 13 _ _ _ HC2.out.2.2
      have c14 := cell_of_row w2 w.heap.size 14 _ _ _ HC2.out.2.1
      have d14 := cell_of_row w2 (w.heap.size + 1) 14 _ _ _ HC2.out.2.2
      have c15 := cell_of_row w2 w.heap.size 15 _ _ _ HC2.out.2.1
      have d15 := cell_of_row w2 (w.heap.size + 1) 15 _ _ _ HC2.out.2.2
      have c16 := cell_of_row w2 w.heap.size 16 _ _ _ HC2.out.2.1
      have d16 := cell_of_row w2 (w.heap.size + 1) 16 _ _ _ HC2.out.2.2
      have c17 := cell_of_row w2 w.heap.size 17 _ _ _ HC2.out.2.1
      have d17 := cell_of_row w2 (w.heap.size + 1) 17 _ _ _ HC2.out.2.2
      simp only [List.getElem?_toArray, List.getElem?_cons_zero, List.getElem?_cons_succ] at c12 d12 c13 d13 c14 d14 c15 d15 c16 d16 c17 d17
      go_wp2_with fail
      refine (HD.out _).mono ?_
      rintro e w3 ⟨rfl, hg⟩
      have HC3 := Lib.hid (And.intro (HC2.out.1.trans hg) (And.intro ((hg.block _ (block_lt_of_cell (cell_of_row _ _ 0 _ _ _ HC2.out.2.1)) (by simp)).trans HC2.out.2.1) ((hg.block _ (block_lt_of_cell (cell_of_row _ _ 0 _ _ _ HC2.out.2.2)) (by simp)).trans HC2.out.2.2)))
      clear hg c12 d12 c13 d13 c14 d14 c15 d15 c16 d16 c17 d17
      cases p3 with
      | false =>
        go_wp2_with fail
        go_ret
        exact ⟨by simp, HC3.out.1⟩
      | true =>
        have c18 := cell_of_row w3 w.heap.size 18 _ _ _ HC3.out.2.1
        have d18 := cell_of_row w3 (w.heap.size + 1) 18 _ _ _ HC3.out.2.2
        have c19 := cell_of_row w3 w.heap.size 19 _ _ _ HC3.out.2.1
        have d19 := cell_of_row w3 (w.heap.size + 1) 19 _ _ _ HC3.out.2.2
        have c20 := cell_of_row w3 w.heap.size 20 _ _ _ HC3.out.2.1
        have d20 := cell_of_row w3 (w.heap.size + 1) 20 _ _ _ HC3.out.2.2
        simp only [List.getElem?_toArray, List.getElem?_cons_zero, List.getElem?_cons_succ] at c18 d18 c19 d19 c20 d20
        cases x0 with
        | false =>
          go_wp2_with fail
          go_ret
          exact ⟨by simp, HC3.out.1⟩
        | true =>
          cases x1 with
          | false =>
            go_wp2_with fail
            go_ret
            exact ⟨by simp, HC3.out.1⟩
          | true =>
            go_wp2_with fail
            go_ret
            exact ⟨by first | rfl | simp [hx2], HC3.out.1⟩
end Go.Proofs.YtflckkeaakmojaaDoor
