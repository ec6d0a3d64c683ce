/-
  THE WALKS OF muezzinlaw5.first AND ActBounds: each number at its bound may be, one further may not; it answers true. No condition but the fourteen sentinels' own ('Sent').
-/
import Derived.Test.YtflckkeaakmojaaDoorActD
import Derived.Test.YtflckkeaakmojaaDoorRow
import Derived.Test.YtflckkeaakmojaaDoorCalm
import Derived.Test.YtflckkeaakmojaaDoorSent
import Derived.Test.YtflckkeaakmojaaDoorFrame
import Derived.Deep.Cut
import Derived.Deep.CutBlock
namespace Go.Proofs.YtflckkeaakmojaaDoor
open Go.RowKit

theorem add_len (ta fr bs : Ad) (ans : Bool) (tok tid size tmo seq st : Int) : (addL ta fr bs ans tok tid size tmo seq st).length = 33 := by cases ans <;> simp [addL, frontL, adL, twoL]
theorem del_len (ta fr bs : Ad) (mine : Bool) (tid reason : Int) : (delL ta fr bs mine tid reason).length = 30 := by simp [delL, frontL, adL, twoL]
/-- What came back: a slice of its own with the bytes X, and u. -/
def Wrown (w w' : World) (e : Ending) (X : List Int) (u : Value) : Prop := ∃ p cap, e = .returned (.tuple #[.slice p X.length cap, u]) ∧ Gro none w w' ∧ Own w.heap.size w' (.slice p X.length cap) X
theorem Own.wrown {w w' : World} {v u : Value} {X : List Int} (h : Own w.heap.size w' v X) (k : Gro none w w') : Wrown w w' (.returned (.tuple #[v, u])) X u := by
  obtain ⟨p, cap, rfl, _, _, _⟩ := h.lie
  exact ⟨p, cap, rfl, k, h⟩
theorem add_run (w : World) : (Instr.alloc 27 true (.tuple #[])).run Tryd.prog w = .ok (.pointer (some ⟨w.heap.size, 0, none⟩)) (w.alloc (.cells #[.int .u8 0, .int .u8 0, .int .u8 0, .int .u8 0, .int .u8 0, .int .u8 0, .int .u8 0, .int .u8 0, .int .u8 0, .int .u8 0, .int .u8 0, .int .u8 0, .int .u8 0, .int .u8 0, .int .u8 0, .int .u8 0, .int .u8 0, .int .u8 0, .bool false, .int .i64 0, .int .i64 0, .int .i64 0, .int .i64 0, .int .i64 0, .int .i64 0] 27)) := by go_simp
set_option maxRecDepth 100000 in
theorem first5_any (w : World) : Calls Tryd.prog 7 #[] w fun e w' => e = .returned (.bool true) ∧ Gro none w w' := by
  have HA := Lib.hid (fun w => (add_any adZ adZ adZ false 0 0 0 0 0 0 w (by decide)).mono fun e w' ⟨v, he, hg, ho⟩ => (he ▸ ho.wrown hg : Wrown w w' e _ _))
  have HD := Lib.hid (fun w => (del_any adZ adZ adZ false 0 0 w (by decide)).mono fun e w' ⟨v, he, hg, ho⟩ => (he ▸ ho.wrown hg : Wrown w w' e _ _))
  have h1 := add_len adZ adZ adZ false 0 0 0 0 0 0
  have h2 := del_len adZ adZ adZ false 0 0
  generalize addL adZ adZ adZ false 0 0 0 0 0 0 = X1 at *
  generalize delL adZ adZ adZ false 0 0 = X2 at *
  have HN := Lib.hid (And.intro h1 h2)
  clear h1 h2
  unfold addV adZ at HA
  unfold delV adZ at HD
  simp only at HA HD
  go_enter Tryd.func7, Tryd.ntmps7
  go_wp2_with fail
  refine (HA.out _).mono ?_
  rintro e w1 ⟨p, c, rfl, hg1, -⟩
  rw [HN.out.1]
  go_wp2_with fail
  refine (HD.out _).mono ?_
  rintro e w2 ⟨q, d, rfl, hg2, -⟩
  rw [HN.out.2]
  have HG := Lib.hid (hg1.trans hg2)
  clear hg1 hg2 HA HD
  go_wp2_with fail
  go_ret
  exact ⟨rfl, HG.out⟩

set_option maxHeartbeats 8000000 in
set_option maxRecDepth 100000 in
theorem bounds_any (k far : Int) (ans : Bool) (A : Nat → Addr) (W : World) (hs : Sent W.heap.size W A) :
    Calls Tryd.prog 3 #[.int .i64 k, .int .i64 far, .bool ans] W fun e w' => e = .returned (.bool true) ∧ Far W.heap.size W w' := by
  have HAB : Hid (∀ w, Gro none W w → ∀ tok tid size tmo seq st, ¬ okA ans tok tid size tmo seq st → Calls Tryd.prog 9 #[addV adZ adZ adZ ans tok tid size tmo seq st] w fun e w' => e = .returned (.tuple #[.slice none 0 0, errV A 3]) ∧ Gro none w w') := fun w k tok tid size tmo seq st h => by
    have hs' : Sent W.heap.size w A := hs.far fun i hi => k.block i hi (by simp)
    exact add_bad adZ adZ adZ ans tok tid size tmo seq st _ w h hs'.c2 (by have := k.size; have := hs.big; omega)
  have HDB : Hid (∀ w, Gro none W w → ∀ mine tid reason, ¬ okD tid reason → Calls Tryd.prog 10 #[delV adZ adZ adZ mine tid reason] w fun e w' => e = .returned (.tuple #[.slice none 0 0, errV A 3]) ∧ Gro none w w') := fun w k mine tid reason h => by
    have hs' : Sent W.heap.size w A := hs.far fun i hi => k.block i hi (by simp)
    exact del_bad adZ adZ adZ mine tid reason _ w h hs'.c2 (by have := k.size; have := hs.big; omega)
  have HIS : Hid (∀ w, Gro none W w → Calls Tryd.prog 11 #[errV A 3, .int .i64 103] w fun e w' => e = .returned (.bool true) ∧ Gro none w w') := fun w k => (is_any W.heap.size w A (hs.far fun i hi => k.block i hi (by simp)) k.size 3 (by decide) (codeOf 3)).mono fun e w' ⟨he, hg⟩ => ⟨by rw [he, decide_eq_true rfl], hg⟩
  have HGA := Lib.hid (fun w => (add_any adZ adZ adZ ans 255 7 1023 65535 (if ans then 0 else 4095) (if ans then 65535 else 0) w (by cases ans <;> decide)).mono fun e w' ⟨v, he, hg, ho⟩ => (he ▸ ho.wrown hg : Wrown w w' e _ _))
  have HGD := Lib.hid (fun w => (del_any adZ adZ adZ ans 7 65535 w (by decide)).mono fun e w' ⟨v, he, hg, ho⟩ => (he ▸ ho.wrown hg : Wrown w w' e _ _))
  have HK := Lib.hid (show (k % 6 = 0 ∨ k % 6 = 1 ∨ k % 6 = 2 ∨ k % 6 = 3 ∨ k % 6 = 4 ∨ k % 6 = 5) ∧ (far % 2 = 0 ∨ far % 2 = 1) by omega)
  have HNK := Lib.hid (fun w => number_any k 6 w (by decide) (by decide))
  have HNF := Lib.hid (fun w => number_any far 2 w (by decide) (by decide))
  generalize addL adZ adZ adZ ans 255 7 1023 65535 (if ans then 0 else 4095) (if ans then 65535 else 0) = X1 at *
  generalize delL adZ adZ adZ ans 7 65535 = X2 at *
  generalize errV A 3 = u3 at *
  generalize k % 6 = k6 at *
  generalize far % 2 = f2 at *
  unfold addV at HAB HGA
  unfold delV at HDB HGD
  unfold adZ at HAB HGA HDB HGD
  simp only at HAB HGA HDB HGD
  clear hs
  go_enter Tryd.func3, Tryd.ntmps3
  go_wp2_with fail
  refine (first5_any _).mono ?_
  rintro e w0 ⟨rfl, hg0⟩
  have HG0 := Lib.hid hg0
  clear hg0
  go_wp2_with fail
  refine (HNF.out _).mono ?_
  rintro e w' ⟨rfl, rfl⟩
  cases ans
  case false => as_aux_lemma =>
    simp only [Bool.false_eq_true, if_false] at HGA
    go_wp2_with (refine alloc_row rfl 27 rfl 8 rfl #[.int .u8 0, .int .u8 0, .int .u8 0, .int .u8 0, .int .u8 0, .int .u8 0, .int .u8 0, .int .u8 0, .int .u8 0, .int .u8 0, .int .u8 0, .int .u8 0, .int .u8 0, .int .u8 0, .int .u8 0, .int .u8 0, .int .u8 0, .int .u8 0, .bool false, .int .i64 0, .int .i64 0, .int .i64 0, .int .i64 0, .int .i64 0, .int .i64 0] 27 add_run rfl (.tmp 26) rfl (by first | (simp; done) | (simp [Act.put]; done)) #[.int .u8 0, .int .u8 0, .int .u8 0, .int .u8 0, .int .u8 0, .int .u8 0, .int .u8 0, .int .u8 0, .int .u8 0, .int .u8 0, .int .u8 0, .int .u8 0, .int .u8 0, .int .u8 0, .int .u8 0, .int .u8 0, .int .u8 0, .int .u8 0, .bool false, .int .i64 255, .int .i64 7, .int .i64 1023, .int .i64 65535, .int .i64 0, .int .i64 0] (by rfl) rfl (by kernel_rfl) (by simp [Value.oneCell']) ?_)
    intro w1 hg hr
    have hlt0 : w0.heap.size < w1.heap.size := blk_in hr
    have c23 := cell_of_row w1 w0.heap.size 23 _ _ _ hr
    have c24 := cell_of_row w1 w0.heap.size 24 _ _ _ hr
    simp only [List.getElem?_toArray, List.getElem?_cons_zero, List.getElem?_cons_succ] at c23 c24
    have hf : ∀ j, w1.frozen? ⟨w0.heap.size, j, none⟩ = false := fun j => frozen_of_row w1 w0.heap.size j _ _ hr
    have HG1 := Lib.hid hg
    have HR1 := Lib.hid hr
    clear hg hr
    go_upto_region 9 with fail
    refine gen_world (fun W' => Gro none W W' ∧ W'.heap[w0.heap.size]? = some (.cells #[.int .u8 0, .int .u8 0, .int .u8 0, .int .u8 0, .int .u8 0, .int .u8 0, .int .u8 0, .int .u8 0, .int .u8 0, .int .u8 0, .int .u8 0, .int .u8 0, .int .u8 0, .int .u8 0, .int .u8 0, .int .u8 0, .int .u8 0, .int .u8 0, .bool false, .int .i64 255, .int .i64 7, .int .i64 1023, .int .i64 65535, .int .i64 4095, .int .i64 0] 27 (0, 0))) ⟨?_, ?_⟩ ?_
    · with_reducible refine Gro.setNew ?_ (show W.heap.size ≤ w0.heap.size from HG0.out.size) _
      exact HG0.out.trans HG1.out
    · have h := heap_setCell_same w1 w0.heap.size 23 _ _ (.int .i64 4095) HR1.out
      simp only [List.setIfInBounds_toArray, List.set_cons_zero, List.set_cons_succ] at h
      exact h
    rintro w2 ⟨hg2, hr2⟩
    have HG2 := Lib.hid hg2
    have HR2 := Lib.hid hr2
    have hlt2 : w0.heap.size < w2.heap.size := blk_in hr2
    clear hg2 hr2 c23 c24 hf HG1 HR1 hlt0
    go_wp2_with (refine load_row rfl _ _ rfl _ rfl _ _ HR2.out _ Tryd.underlying27 rfl (by kernel_rfl) ?_)
    go_wp2_with fail
    refine (HGA.out _).mono ?_
    rintro e w3 ⟨p1, d1, rfl, hg3, -⟩
    have HR3 := Lib.hid ((hg3.block w0.heap.size hlt2 (by simp)).trans HR2.out)
    have HG3 := Lib.hid (HG2.out.trans hg3)
    have hlt3 : w0.heap.size < w3.heap.size := blk_in HR3.out
    clear hg3 HR2 HG2 hlt2 HGA
    go_wp2_with (first | (refine load_row rfl _ _ rfl _ rfl _ _ HR3.out _ Tryd.underlying27 rfl (by kernel_rfl) ?_) | (refine alloc_row rfl 27 rfl 11 rfl #[.int .u8 0, .int .u8 0, .int .u8 0, .int .u8 0, .int .u8 0, .int .u8 0, .int .u8 0, .int .u8 0, .int .u8 0, .int .u8 0, .int .u8 0, .int .u8 0, .int .u8 0, .int .u8 0, .int .u8 0, .int .u8 0, .int .u8 0, .int .u8 0, .bool false, .int .i64 0, .int .i64 0, .int .i64 0, .int .i64 0, .int .i64 0, .int .i64 0] 27 add_run rfl (.tmp 35) rfl (by first | (simp; done) | (simp [Act.put]; done)) #[.int .u8 0, .int .u8 0, .int .u8 0, .int .u8 0, .int .u8 0, .int .u8 0, .int .u8 0, .int .u8 0, .int .u8 0, .int .u8 0, .int .u8 0, .int .u8 0, .int .u8 0, .int .u8 0, .int .u8 0, .int .u8 0, .int .u8 0, .int .u8 0, .bool false, .int .i64 255, .int .i64 7, .int .i64 1023, .int .i64 65535, .int .i64 4095, .int .i64 0] (by rfl) rfl (by kernel_rfl) (by simp [Value.oneCell']) ?_))
    intro w4 hg hr
    have HR4 := Lib.hid hr
    have HA4 := Lib.hid ((hg.block w0.heap.size hlt3 (by simp)).trans HR3.out)
    have HG4 := Lib.hid (HG3.out.trans hg)
    have hge3 : W.heap.size ≤ w3.heap.size := HG3.out.size
    have hlt4 : w3.heap.size < w4.heap.size := blk_in hr
    clear hg hr HR3 HG3
    generalize w3.heap.size = g3 at *
    generalize w0.heap.size = g0 at *
    go_wp2_with fail
    refine (HNK.out _).mono ?_
    rintro e w' ⟨rfl, rfl⟩
    go_upto_block 0 with fail
    go_cut [] from 20 (fun w => Gro none W w ∧ ∃ tok tid size tmo seq st, ¬ okA false tok tid size tmo seq st ∧ w.heap[g3]? = some (.cells #[.int .u8 0, .int .u8 0, .int .u8 0, .int .u8 0, .int .u8 0, .int .u8 0, .int .u8 0, .int .u8 0, .int .u8 0, .int .u8 0, .int .u8 0, .int .u8 0, .int .u8 0, .int .u8 0, .int .u8 0, .int .u8 0, .int .u8 0, .int .u8 0, .bool false, .int .i64 tok, .int .i64 tid, .int .i64 size, .int .i64 tmo, .int .i64 seq, .int .i64 st] 27 (0, 0)))
    case first =>
      have hr4 := HR4.out
      have ha4 := HA4.out
      have hf : ∀ j, w4.frozen? ⟨g3, j, none⟩ = false := fun j => frozen_of_row w4 g3 j _ _ hr4
      have b19 := cell_of_row w4 g3 19 _ _ _ hr4
      have b20 := cell_of_row w4 g3 20 _ _ _ hr4
      have b21 := cell_of_row w4 g3 21 _ _ _ hr4
      have b22 := cell_of_row w4 g3 22 _ _ _ hr4
      have b23 := cell_of_row w4 g3 23 _ _ _ hr4
      have b24 := cell_of_row w4 g3 24 _ _ _ hr4
      have a23 := cell_of_row w4 g0 23 _ _ _ ha4
      have a24 := cell_of_row w4 g0 24 _ _ _ ha4
      simp only [List.getElem?_toArray, List.getElem?_cons_zero, List.getElem?_cons_succ] at b19 b20 b21 b22 b23 b24 a23 a24
      clear hr4 ha4
      have hne : ¬ g3 = w4.heap.size := by omega
      obtain ⟨h6, h2⟩ := HK.out
      clear HK HNK HNF HGD HDB HIS HAB
      rcases h6 with rfl | rfl | rfl | rfl | rfl | rfl
      · rcases h2 with rfl | rfl
        · as_aux_lemma =>
            go_wp2_with fail
            go_meet
            case rel =>
              refine ⟨?_, 256, 7, 1023, 65535, 4095, 0, by decide, ?_⟩
              · repeat (first | with_reducible exact HG4.out | with_reducible refine Gro.drew ?_ | with_reducible refine Gro.setNew ?_ hge3 _ | with_reducible refine Gro.alloc ?_ _)
              · have h := heap_setCell_same w4 g3 19 _ _ (.int .i64 256) HR4.out
                simp only [List.setIfInBounds_toArray, List.set_cons_zero, List.set_cons_succ] at h
                exact (Below.heap_alloc _ _ _ (blk_in h)).trans h
        · as_aux_lemma =>
            go_wp2_with fail
            go_meet
            case rel =>
              refine ⟨?_, -1, 7, 1023, 65535, 4095, 0, by decide, ?_⟩
              · repeat (first | with_reducible exact HG4.out | with_reducible refine Gro.drew ?_ | with_reducible refine Gro.setNew ?_ hge3 _ | with_reducible refine Gro.alloc ?_ _)
              · have h := heap_setCell_same w4 g3 19 _ _ (.int .i64 (-1)) HR4.out
                simp only [List.setIfInBounds_toArray, List.set_cons_zero, List.set_cons_succ] at h
                exact (Below.heap_alloc _ _ _ (blk_in h)).trans h
      · rcases h2 with rfl | rfl
        · as_aux_lemma =>
            go_wp2_with fail
            go_meet
            case rel =>
              refine ⟨?_, 255, 8, 1023, 65535, 4095, 0, by decide, ?_⟩
              · repeat (first | with_reducible exact HG4.out | with_reducible refine Gro.drew ?_ | with_reducible refine Gro.setNew ?_ hge3 _ | with_reducible refine Gro.alloc ?_ _)
              · have h := heap_setCell_same w4 g3 20 _ _ (.int .i64 8) HR4.out
                simp only [List.setIfInBounds_toArray, List.set_cons_zero, List.set_cons_succ] at h
                exact (Below.heap_alloc _ _ _ (blk_in h)).trans h
        · as_aux_lemma =>
            go_wp2_with fail
            go_meet
            case rel =>
              refine ⟨?_, 255, -1, 1023, 65535, 4095, 0, by decide, ?_⟩
              · repeat (first | with_reducible exact HG4.out | with_reducible refine Gro.drew ?_ | with_reducible refine Gro.setNew ?_ hge3 _ | with_reducible refine Gro.alloc ?_ _)
              · have h := heap_setCell_same w4 g3 20 _ _ (.int .i64 (-1)) HR4.out
                simp only [List.setIfInBounds_toArray, List.set_cons_zero, List.set_cons_succ] at h
                exact (Below.heap_alloc _ _ _ (blk_in h)).trans h
      · rcases h2 with rfl | rfl
        · as_aux_lemma =>
            go_wp2_with fail
            go_meet
            case rel =>
              refine ⟨?_, 255, 7, 1024, 65535, 4095, 0, by decide, ?_⟩
              · repeat (first | with_reducible exact HG4.out | with_reducible refine Gro.drew ?_ | with_reducible refine Gro.setNew ?_ hge3 _ | with_reducible refine Gro.alloc ?_ _)
              · have h := heap_setCell_same w4 g3 21 _ _ (.int .i64 1024) HR4.out
                simp only [List.setIfInBounds_toArray, List.set_cons_zero, List.set_cons_succ] at h
                exact (Below.heap_alloc _ _ _ (blk_in h)).trans h
        · as_aux_lemma =>
            go_wp2_with fail
            go_meet
            case rel =>
              refine ⟨?_, 255, 7, -1, 65535, 4095, 0, by decide, ?_⟩
              · repeat (first | with_reducible exact HG4.out | with_reducible refine Gro.drew ?_ | with_reducible refine Gro.setNew ?_ hge3 _ | with_reducible refine Gro.alloc ?_ _)
              · have h := heap_setCell_same w4 g3 21 _ _ (.int .i64 (-1)) HR4.out
                simp only [List.setIfInBounds_toArray, List.set_cons_zero, List.set_cons_succ] at h
                exact (Below.heap_alloc _ _ _ (blk_in h)).trans h
      · rcases h2 with rfl | rfl
        · as_aux_lemma =>
            go_wp2_with fail
            go_meet
            case rel =>
              refine ⟨?_, 255, 7, 1023, 65536, 4095, 0, by decide, ?_⟩
              · repeat (first | with_reducible exact HG4.out | with_reducible refine Gro.drew ?_ | with_reducible refine Gro.setNew ?_ hge3 _ | with_reducible refine Gro.alloc ?_ _)
              · have h := heap_setCell_same w4 g3 22 _ _ (.int .i64 65536) HR4.out
                simp only [List.setIfInBounds_toArray, List.set_cons_zero, List.set_cons_succ] at h
                exact (Below.heap_alloc _ _ _ (blk_in h)).trans h
        · as_aux_lemma =>
            go_wp2_with fail
            go_meet
            case rel =>
              refine ⟨?_, 255, 7, 1023, -1, 4095, 0, by decide, ?_⟩
              · repeat (first | with_reducible exact HG4.out | with_reducible refine Gro.drew ?_ | with_reducible refine Gro.setNew ?_ hge3 _ | with_reducible refine Gro.alloc ?_ _)
              · have h := heap_setCell_same w4 g3 22 _ _ (.int .i64 (-1)) HR4.out
                simp only [List.setIfInBounds_toArray, List.set_cons_zero, List.set_cons_succ] at h
                exact (Below.heap_alloc _ _ _ (blk_in h)).trans h
      · as_aux_lemma =>
          go_wp2_with fail
          go_meet
          case rel =>
            refine ⟨?_, 255, 7, 1023, 65535, 4095, 1, by decide, ?_⟩
            · repeat (first | with_reducible exact HG4.out | with_reducible refine Gro.drew ?_ | with_reducible refine Gro.setNew ?_ hge3 _ | with_reducible refine Gro.alloc ?_ _)
            · have h := heap_setCell_same w4 g3 24 _ _ (.int .i64 1) HR4.out
              simp only [List.setIfInBounds_toArray, List.set_cons_zero, List.set_cons_succ] at h
              exact h
      · as_aux_lemma =>
          go_wp2_with fail
          go_meet
          case rel =>
            refine ⟨?_, 255, 7, 1023, 65535, 4096, 0, by decide, ?_⟩
            · repeat (first | with_reducible exact HG4.out | with_reducible refine Gro.drew ?_ | with_reducible refine Gro.setNew ?_ hge3 _ | with_reducible refine Gro.alloc ?_ _)
            · have h := heap_setCell_same w4 g3 23 _ _ (.int .i64 4096) HR4.out
              simp only [List.setIfInBounds_toArray, List.set_cons_zero, List.set_cons_succ] at h
              exact h
    case rest => as_aux_lemma =>
    obtain ⟨hg, tok, tid, size, tmo, seq, st, hbad, hr⟩ := hcut
    have HQ := Lib.hid (HAB.out _ hg tok tid size tmo seq st hbad)
    have HG := Lib.hid hg
    have HR := Lib.hid hr
    have HB1 := Lib.hid (fun w k => HDB.out w k false 8 0 (by decide))
    have HB2 := Lib.hid (fun w k => HDB.out w k false 0 65536 (by decide))
    clear hg hr hbad HAB HDB HK HNK HNF HR4 HA4 HG4 hge3 hlt4
    go_wp2_with (refine load_row rfl _ _ rfl _ rfl _ _ HR.out _ Tryd.underlying27 rfl (by kernel_rfl) ?_)
    go_wp2_with fail
    refine HQ.out.mono ?_
    rintro e x1 ⟨rfl, hg⟩
    have HG := Lib.hid (HG.out.trans hg)
    clear hg HQ HR
    go_wp2_with fail
    refine (HB1.out _ HG.out).mono ?_
    rintro e x2 ⟨rfl, hg⟩
    have HG := Lib.hid (HG.out.trans hg)
    clear hg HB1
    go_wp2_with fail
    refine (HGD.out _).mono ?_
    rintro e x3 ⟨p2, d2, rfl, hg, -⟩
    have HG := Lib.hid (HG.out.trans hg)
    clear hg HGD
    go_wp2_with fail
    refine (HB2.out _ HG.out).mono ?_
    rintro e x4 ⟨rfl, hg⟩
    have HG := Lib.hid (HG.out.trans hg)
    clear hg HB2
    go_wp2_with fail
    refine (HIS.out _ HG.out).mono ?_
    rintro e x5 ⟨rfl, hg⟩
    have HG := Lib.hid (HG.out.trans hg)
    clear hg
    go_wp2_with fail
    refine (HIS.out _ HG.out).mono ?_
    rintro e x6 ⟨rfl, hg⟩
    have HG := Lib.hid (HG.out.trans hg)
    clear hg
    go_wp2_with fail
    refine (HIS.out _ HG.out).mono ?_
    rintro e x7 ⟨rfl, hg⟩
    have HG := Lib.hid (HG.out.trans hg)
    clear hg
    go_wp2_with fail
    go_ret
    exact ⟨rfl, (Far.refl _ _).gro HG.out (Nat.le_refl _) (fun _ e => by cases e)⟩
  case true => as_aux_lemma =>
    simp only [if_true] at HGA
    go_wp2_with (refine alloc_row rfl 27 rfl 8 rfl #[.int .u8 0, .int .u8 0, .int .u8 0, .int .u8 0, .int .u8 0, .int .u8 0, .int .u8 0, .int .u8 0, .int .u8 0, .int .u8 0, .int .u8 0, .int .u8 0, .int .u8 0, .int .u8 0, .int .u8 0, .int .u8 0, .int .u8 0, .int .u8 0, .bool false, .int .i64 0, .int .i64 0, .int .i64 0, .int .i64 0, .int .i64 0, .int .i64 0] 27 add_run rfl (.tmp 26) rfl (by first | (simp; done) | (simp [Act.put]; done)) #[.int .u8 0, .int .u8 0, .int .u8 0, .int .u8 0, .int .u8 0, .int .u8 0, .int .u8 0, .int .u8 0, .int .u8 0, .int .u8 0, .int .u8 0, .int .u8 0, .int .u8 0, .int .u8 0, .int .u8 0, .int .u8 0, .int .u8 0, .int .u8 0, .bool true, .int .i64 255, .int .i64 7, .int .i64 1023, .int .i64 65535, .int .i64 0, .int .i64 0] (by rfl) rfl (by kernel_rfl) (by simp [Value.oneCell']) ?_)
    intro w1 hg hr
    have hlt0 : w0.heap.size < w1.heap.size := blk_in hr
    have c23 := cell_of_row w1 w0.heap.size 23 _ _ _ hr
    have c24 := cell_of_row w1 w0.heap.size 24 _ _ _ hr
    simp only [List.getElem?_toArray, List.getElem?_cons_zero, List.getElem?_cons_succ] at c23 c24
    have hf : ∀ j, w1.frozen? ⟨w0.heap.size, j, none⟩ = false := fun j => frozen_of_row w1 w0.heap.size j _ _ hr
    have HG1 := Lib.hid hg
    have HR1 := Lib.hid hr
    clear hg hr
    go_upto_region 9 with fail
    refine gen_world (fun W' => Gro none W W' ∧ W'.heap[w0.heap.size]? = some (.cells #[.int .u8 0, .int .u8 0, .int .u8 0, .int .u8 0, .int .u8 0, .int .u8 0, .int .u8 0, .int .u8 0, .int .u8 0, .int .u8 0, .int .u8 0, .int .u8 0, .int .u8 0, .int .u8 0, .int .u8 0, .int .u8 0, .int .u8 0, .int .u8 0, .bool true, .int .i64 255, .int .i64 7, .int .i64 1023, .int .i64 65535, .int .i64 0, .int .i64 65535] 27 (0, 0))) ⟨?_, ?_⟩ ?_
    · with_reducible refine Gro.setNew ?_ (show W.heap.size ≤ w0.heap.size from HG0.out.size) _
      exact HG0.out.trans HG1.out
    · have h := heap_setCell_same w1 w0.heap.size 24 _ _ (.int .i64 65535) HR1.out
      simp only [List.setIfInBounds_toArray, List.set_cons_zero, List.set_cons_succ] at h
      exact h
    rintro w2 ⟨hg2, hr2⟩
    have HG2 := Lib.hid hg2
    have HR2 := Lib.hid hr2
    have hlt2 : w0.heap.size < w2.heap.size := blk_in hr2
    clear hg2 hr2 c23 c24 hf HG1 HR1 hlt0
    go_wp2_with (refine load_row rfl _ _ rfl _ rfl _ _ HR2.out _ Tryd.underlying27 rfl (by kernel_rfl) ?_)
    go_wp2_with fail
    refine (HGA.out _).mono ?_
    rintro e w3 ⟨p1, d1, rfl, hg3, -⟩
    have HR3 := Lib.hid ((hg3.block w0.heap.size hlt2 (by simp)).trans HR2.out)
    have HG3 := Lib.hid (HG2.out.trans hg3)
    have hlt3 : w0.heap.size < w3.heap.size := blk_in HR3.out
    clear hg3 HR2 HG2 hlt2 HGA
    go_wp2_with (first | (refine load_row rfl _ _ rfl _ rfl _ _ HR3.out _ Tryd.underlying27 rfl (by kernel_rfl) ?_) | (refine alloc_row rfl 27 rfl 11 rfl #[.int .u8 0, .int .u8 0, .int .u8 0, .int .u8 0, .int .u8 0, .int .u8 0, .int .u8 0, .int .u8 0, .int .u8 0, .int .u8 0, .int .u8 0, .int .u8 0, .int .u8 0, .int .u8 0, .int .u8 0, .int .u8 0, .int .u8 0, .int .u8 0, .bool false, .int .i64 0, .int .i64 0, .int .i64 0, .int .i64 0, .int .i64 0, .int .i64 0] 27 add_run rfl (.tmp 35) rfl (by first | (simp; done) | (simp [Act.put]; done)) #[.int .u8 0, .int .u8 0, .int .u8 0, .int .u8 0, .int .u8 0, .int .u8 0, .int .u8 0, .int .u8 0, .int .u8 0, .int .u8 0, .int .u8 0, .int .u8 0, .int .u8 0, .int .u8 0, .int .u8 0, .int .u8 0, .int .u8 0, .int .u8 0, .bool true, .int .i64 255, .int .i64 7, .int .i64 1023, .int .i64 65535, .int .i64 0, .int .i64 65535] (by rfl) rfl (by kernel_rfl) (by simp [Value.oneCell']) ?_))
    intro w4 hg hr
    have HR4 := Lib.hid hr
    have HA4 := Lib.hid ((hg.block w0.heap.size hlt3 (by simp)).trans HR3.out)
    have HG4 := Lib.hid (HG3.out.trans hg)
    have hge3 : W.heap.size ≤ w3.heap.size := HG3.out.size
    have hlt4 : w3.heap.size < w4.heap.size := blk_in hr
    clear hg hr HR3 HG3
    generalize w3.heap.size = g3 at *
    generalize w0.heap.size = g0 at *
    go_wp2_with fail
    refine (HNK.out _).mono ?_
    rintro e w' ⟨rfl, rfl⟩
    go_upto_block 0 with fail
    go_cut [] from 20 (fun w => Gro none W w ∧ ∃ tok tid size tmo seq st, ¬ okA true tok tid size tmo seq st ∧ w.heap[g3]? = some (.cells #[.int .u8 0, .int .u8 0, .int .u8 0, .int .u8 0, .int .u8 0, .int .u8 0, .int .u8 0, .int .u8 0, .int .u8 0, .int .u8 0, .int .u8 0, .int .u8 0, .int .u8 0, .int .u8 0, .int .u8 0, .int .u8 0, .int .u8 0, .int .u8 0, .bool true, .int .i64 tok, .int .i64 tid, .int .i64 size, .int .i64 tmo, .int .i64 seq, .int .i64 st] 27 (0, 0)))
    case first =>
      have hr4 := HR4.out
      have ha4 := HA4.out
      have hf : ∀ j, w4.frozen? ⟨g3, j, none⟩ = false := fun j => frozen_of_row w4 g3 j _ _ hr4
      have b19 := cell_of_row w4 g3 19 _ _ _ hr4
      have b20 := cell_of_row w4 g3 20 _ _ _ hr4
      have b21 := cell_of_row w4 g3 21 _ _ _ hr4
      have b22 := cell_of_row w4 g3 22 _ _ _ hr4
      have b23 := cell_of_row w4 g3 23 _ _ _ hr4
      have b24 := cell_of_row w4 g3 24 _ _ _ hr4
      have a23 := cell_of_row w4 g0 23 _ _ _ ha4
      have a24 := cell_of_row w4 g0 24 _ _ _ ha4
      simp only [List.getElem?_toArray, List.getElem?_cons_zero, List.getElem?_cons_succ] at b19 b20 b21 b22 b23 b24 a23 a24
      clear hr4 ha4
      have hne : ¬ g3 = w4.heap.size := by omega
      obtain ⟨h6, h2⟩ := HK.out
      clear HK HNK HNF HGD HDB HIS HAB
      rcases h6 with rfl | rfl | rfl | rfl | rfl | rfl
      · rcases h2 with rfl | rfl
        · as_aux_lemma =>
            go_wp2_with fail
            go_meet
            case rel =>
              refine ⟨?_, 256, 7, 1023, 65535, 0, 65535, by decide, ?_⟩
              · repeat (first | with_reducible exact HG4.out | with_reducible refine Gro.drew ?_ | with_reducible refine Gro.setNew ?_ hge3 _ | with_reducible refine Gro.alloc ?_ _)
              · have h := heap_setCell_same w4 g3 19 _ _ (.int .i64 256) HR4.out
                simp only [List.setIfInBounds_toArray, List.set_cons_zero, List.set_cons_succ] at h
                exact (Below.heap_alloc _ _ _ (blk_in h)).trans h
        · as_aux_lemma =>
            go_wp2_with fail
            go_meet
            case rel =>
              refine ⟨?_, -1, 7, 1023, 65535, 0, 65535, by decide, ?_⟩
              · repeat (first | with_reducible exact HG4.out | with_reducible refine Gro.drew ?_ | with_reducible refine Gro.setNew ?_ hge3 _ | with_reducible refine Gro.alloc ?_ _)
              · have h := heap_setCell_same w4 g3 19 _ _ (.int .i64 (-1)) HR4.out
                simp only [List.setIfInBounds_toArray, List.set_cons_zero, List.set_cons_succ] at h
                exact (Below.heap_alloc _ _ _ (blk_in h)).trans h
      · rcases h2 with rfl | rfl
        · as_aux_lemma =>
            go_wp2_with fail
            go_meet
            case rel =>
              refine ⟨?_, 255, 8, 1023, 65535, 0, 65535, by decide, ?_⟩
              · repeat (first | with_reducible exact HG4.out | with_reducible refine Gro.drew ?_ | with_reducible refine Gro.setNew ?_ hge3 _ | with_reducible refine Gro.alloc ?_ _)
              · have h := heap_setCell_same w4 g3 20 _ _ (.int .i64 8) HR4.out
                simp only [List.setIfInBounds_toArray, List.set_cons_zero, List.set_cons_succ] at h
                exact (Below.heap_alloc _ _ _ (blk_in h)).trans h
        · as_aux_lemma =>
            go_wp2_with fail
            go_meet
            case rel =>
              refine ⟨?_, 255, -1, 1023, 65535, 0, 65535, by decide, ?_⟩
              · repeat (first | with_reducible exact HG4.out | with_reducible refine Gro.drew ?_ | with_reducible refine Gro.setNew ?_ hge3 _ | with_reducible refine Gro.alloc ?_ _)
              · have h := heap_setCell_same w4 g3 20 _ _ (.int .i64 (-1)) HR4.out
                simp only [List.setIfInBounds_toArray, List.set_cons_zero, List.set_cons_succ] at h
                exact (Below.heap_alloc _ _ _ (blk_in h)).trans h
      · rcases h2 with rfl | rfl
        · as_aux_lemma =>
            go_wp2_with fail
            go_meet
            case rel =>
              refine ⟨?_, 255, 7, 1024, 65535, 0, 65535, by decide, ?_⟩
              · repeat (first | with_reducible exact HG4.out | with_reducible refine Gro.drew ?_ | with_reducible refine Gro.setNew ?_ hge3 _ | with_reducible refine Gro.alloc ?_ _)
              · have h := heap_setCell_same w4 g3 21 _ _ (.int .i64 1024) HR4.out
                simp only [List.setIfInBounds_toArray, List.set_cons_zero, List.set_cons_succ] at h
                exact (Below.heap_alloc _ _ _ (blk_in h)).trans h
        · as_aux_lemma =>
            go_wp2_with fail
            go_meet
            case rel =>
              refine ⟨?_, 255, 7, -1, 65535, 0, 65535, by decide, ?_⟩
              · repeat (first | with_reducible exact HG4.out | with_reducible refine Gro.drew ?_ | with_reducible refine Gro.setNew ?_ hge3 _ | with_reducible refine Gro.alloc ?_ _)
              · have h := heap_setCell_same w4 g3 21 _ _ (.int .i64 (-1)) HR4.out
                simp only [List.setIfInBounds_toArray, List.set_cons_zero, List.set_cons_succ] at h
                exact (Below.heap_alloc _ _ _ (blk_in h)).trans h
      · rcases h2 with rfl | rfl
        · as_aux_lemma =>
            go_wp2_with fail
            go_meet
            case rel =>
              refine ⟨?_, 255, 7, 1023, 65536, 0, 65535, by decide, ?_⟩
              · repeat (first | with_reducible exact HG4.out | with_reducible refine Gro.drew ?_ | with_reducible refine Gro.setNew ?_ hge3 _ | with_reducible refine Gro.alloc ?_ _)
              · have h := heap_setCell_same w4 g3 22 _ _ (.int .i64 65536) HR4.out
                simp only [List.setIfInBounds_toArray, List.set_cons_zero, List.set_cons_succ] at h
                exact (Below.heap_alloc _ _ _ (blk_in h)).trans h
        · as_aux_lemma =>
            go_wp2_with fail
            go_meet
            case rel =>
              refine ⟨?_, 255, 7, 1023, -1, 0, 65535, by decide, ?_⟩
              · repeat (first | with_reducible exact HG4.out | with_reducible refine Gro.drew ?_ | with_reducible refine Gro.setNew ?_ hge3 _ | with_reducible refine Gro.alloc ?_ _)
              · have h := heap_setCell_same w4 g3 22 _ _ (.int .i64 (-1)) HR4.out
                simp only [List.setIfInBounds_toArray, List.set_cons_zero, List.set_cons_succ] at h
                exact (Below.heap_alloc _ _ _ (blk_in h)).trans h
      · as_aux_lemma =>
          go_wp2_with fail
          go_meet
          case rel =>
            refine ⟨?_, 255, 7, 1023, 65535, 0, 65536, by decide, ?_⟩
            · repeat (first | with_reducible exact HG4.out | with_reducible refine Gro.drew ?_ | with_reducible refine Gro.setNew ?_ hge3 _ | with_reducible refine Gro.alloc ?_ _)
            · have h := heap_setCell_same w4 g3 24 _ _ (.int .i64 65536) HR4.out
              simp only [List.setIfInBounds_toArray, List.set_cons_zero, List.set_cons_succ] at h
              exact h
      · as_aux_lemma =>
          go_wp2_with fail
          go_meet
          case rel =>
            refine ⟨?_, 255, 7, 1023, 65535, 1, 65535, by decide, ?_⟩
            · repeat (first | with_reducible exact HG4.out | with_reducible refine Gro.drew ?_ | with_reducible refine Gro.setNew ?_ hge3 _ | with_reducible refine Gro.alloc ?_ _)
            · have h := heap_setCell_same w4 g3 23 _ _ (.int .i64 1) HR4.out
              simp only [List.setIfInBounds_toArray, List.set_cons_zero, List.set_cons_succ] at h
              exact h
    case rest => as_aux_lemma =>
    obtain ⟨hg, tok, tid, size, tmo, seq, st, hbad, hr⟩ := hcut
    have HQ := Lib.hid (HAB.out _ hg tok tid size tmo seq st hbad)
    have HG := Lib.hid hg
    have HR := Lib.hid hr
    have HB1 := Lib.hid (fun w k => HDB.out w k false 8 0 (by decide))
    have HB2 := Lib.hid (fun w k => HDB.out w k false 0 65536 (by decide))
    clear hg hr hbad HAB HDB HK HNK HNF HR4 HA4 HG4 hge3 hlt4
    go_wp2_with (refine load_row rfl _ _ rfl _ rfl _ _ HR.out _ Tryd.underlying27 rfl (by kernel_rfl) ?_)
    go_wp2_with fail
    refine HQ.out.mono ?_
    rintro e x1 ⟨rfl, hg⟩
    have HG := Lib.hid (HG.out.trans hg)
    clear hg HQ HR
    go_wp2_with fail
    refine (HB1.out _ HG.out).mono ?_
    rintro e x2 ⟨rfl, hg⟩
    have HG := Lib.hid (HG.out.trans hg)
    clear hg HB1
    go_wp2_with fail
    refine (HGD.out _).mono ?_
    rintro e x3 ⟨p2, d2, rfl, hg, -⟩
    have HG := Lib.hid (HG.out.trans hg)
    clear hg HGD
    go_wp2_with fail
    refine (HB2.out _ HG.out).mono ?_
    rintro e x4 ⟨rfl, hg⟩
    have HG := Lib.hid (HG.out.trans hg)
    clear hg HB2
    go_wp2_with fail
    refine (HIS.out _ HG.out).mono ?_
    rintro e x5 ⟨rfl, hg⟩
    have HG := Lib.hid (HG.out.trans hg)
    clear hg
    go_wp2_with fail
    refine (HIS.out _ HG.out).mono ?_
    rintro e x6 ⟨rfl, hg⟩
    have HG := Lib.hid (HG.out.trans hg)
    clear hg
    go_wp2_with fail
    refine (HIS.out _ HG.out).mono ?_
    rintro e x7 ⟨rfl, hg⟩
    have HG := Lib.hid (HG.out.trans hg)
    clear hg
    go_wp2_with fail
    go_ret
    exact ⟨rfl, (Far.refl _ _).gro HG.out (Nat.le_refl _) (fun _ e => by cases e)⟩
end Go.Proofs.YtflckkeaakmojaaDoor
