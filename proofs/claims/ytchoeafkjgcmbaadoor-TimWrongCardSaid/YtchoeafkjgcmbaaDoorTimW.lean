/-
  THE WALK OF TimWrong: an element that may not be is told; it answers true. No condition but the fourteen sentinels' own ('Sent').
-/
import Derived.Test.YtchoeafkjgcmbaaDoorTimH
import Derived.Test.YtchoeafkjgcmbaaDoorFrame
namespace Go.Proofs.YtchoeafkjgcmbaaDoor
open Go.RowKit

theorem lieI_row {w : World} {b : Nat} {C : Array Value} (xs : List Int) (h : w.heap[b]? = some (.cells C 3 (0, 0))) (hC : C = (xs.map (Value.int .i64)).toArray) : LieI w (some ⟨b, 0, none⟩) xs := by
  intro k hk
  refine ⟨b, 0, rfl, ?_⟩
  rw [cell_of_row _ _ _ _ _ _ h, Nat.zero_add, hC, List.getElem?_toArray, List.getElem?_map, List.getElem?_eq_getElem hk, List.getD_eq_getElem?_getD, List.getElem?_eq_getElem hk]
  rfl
theorem six_alloc {w w' : World} {o0 o1 o2 o3 o4 o5 : Obj} (h : (((((w.alloc o0).alloc o1).alloc o2).alloc o3).alloc o4).alloc o5 = w') :
    Gro none w w' ∧ w'.heap[w.heap.size]? = some o0 ∧ w'.heap[w.heap.size + 1]? = some o1 ∧ w'.heap[w.heap.size + 1 + 1]? = some o2 ∧ w'.heap[w.heap.size + 1 + 1 + 1]? = some o3 ∧ w'.heap[w.heap.size + 1 + 1 + 1 + 1]? = some o4 ∧ w'.heap[w.heap.size + 1 + 1 + 1 + 1 + 1]? = some o5 := by
  subst h
  have hsz : ∀ (w : World) (o : Obj), (w.alloc o).heap.size = w.heap.size + 1 := fun w o => by simp
  have hn : ∀ (w : World) (o : Obj) (k : Nat), w.heap.size = k → (w.alloc o).heap[k]? = some o := fun w o k e => e ▸ heap_alloc_new w o
  have hu : ∀ (w : World) (o u : Obj) (k : Nat), k < w.heap.size → w.heap[k]? = some u → (w.alloc o).heap[k]? = some u := fun w o u k hk h => (Below.heap_alloc _ _ _ hk).trans h
  refine ⟨((((((Gro.refl _ _).alloc _).alloc _).alloc _).alloc _).alloc _).alloc _, ?_, ?_, ?_, ?_, ?_, ?_⟩
  · iterate 5 (refine hu _ _ _ _ (by simp only [hsz]; omega) ?_)
    exact hn _ _ _ rfl
  · iterate 4 (refine hu _ _ _ _ (by simp only [hsz]; omega) ?_)
    exact hn _ _ _ (by simp only [hsz])
  · iterate 3 (refine hu _ _ _ _ (by simp only [hsz]; omega) ?_)
    exact hn _ _ _ (by simp only [hsz])
  · iterate 2 (refine hu _ _ _ _ (by simp only [hsz]; omega) ?_)
    exact hn _ _ _ (by simp only [hsz])
  · refine hu _ _ _ _ (by simp only [hsz]; omega) ?_
    exact hn _ _ _ (by simp only [hsz])
  · exact hn _ _ _ (by simp only [hsz])
set_option maxHeartbeats 8000000 in
set_option maxRecDepth 100000 in
theorem wrong6_any (kk aa : Int) (A : Nat → Addr) (W : World) (hs : Sent W.heap.size W A) :
    Calls Tryd.prog 7 #[.int .i64 kk, .int .i64 aa] W fun e w' => e = .returned (.bool true) ∧ Far W.heap.size W w' := by
  obtain ⟨q, hq⟩ := Int.eq_ofNat_of_zero_le (Int.emod_nonneg aa (show (2000 : Int) ≠ 0 by decide))
  have hq2 : q < 2000 := by have := Int.emod_lt_of_pos aa (show (0 : Int) < 2000 by decide); omega
  have HQ := Lib.hid (fun w => number_at aa 2000 q w hq (by decide) (by decide))
  obtain ⟨r, hr⟩ := Int.eq_ofNat_of_zero_le (Int.emod_nonneg kk (show (9 : Int) ≠ 0 by decide))
  have hr9 : r < 9 := by have := Int.emod_lt_of_pos kk (show (0 : Int) < 9 by decide); omega
  have HK := Lib.hid (fun w => number_at kk 9 r w hr (by decide) (by decide))
  clear hq hr
  have HBAD := Lib.hid (fun (count period : Int) (p : Option Addr) (cap : Nat) (xs : List Int) (hx : xs.length ≤ 100) (hok : ¬ okT count period xs) w' (k : Gro none W w') (hl : LieI w' p xs) => tim_bad count period false p cap xs _ w' hl (by omega) hok (hs.far fun i hi => k.block i hi (by simp)).c2 (by have := hs.big; have := k.size; omega))
  have HIS : Hid (∀ w, Gro none W w → Calls Tryd.prog 16 #[errV A 3, .int .i64 103] w fun e w' => e = .returned (.bool true) ∧ Gro none w w') := fun w k => (is_any W.heap.size w A (hs.far fun i hi => k.block i hi (by simp)) k.size 3 (by decide) 103).mono fun e w' ⟨he, hg⟩ => ⟨by rw [he]; rfl, hg⟩
  have HHAS : Hid (∀ x w', Gro none W w' → Calls Tryd.prog 17 #[.slice none 0 0, .int .i64 x] w' fun e w'' => e = .returned (.bool false) ∧ Gro none w' w'') := fun x w' k => (has_any none 0 [] x W.heap.size A w' ((hs.far fun i hi => k.block i hi (by simp)).four) k.size (by simp) (by simp) (Lie.nil _ _) (fun i => by simp)).mono fun e w'' ⟨he, hg⟩ => ⟨by rw [he]; exact ret_bool (decide_eq_false (fun h => absurd h.1 (by decide))), hg⟩
  clear hs
  unfold timV at HBAD
  simp only [errV] at HIS
  go_enter Tryd.func7, Tryd.ntmps7
  go_wp2_with fail
  refine (first6_any W).mono ?_
  rintro e w1 ⟨rfl, hg1⟩
  have HG1 := Lib.hid hg1
  clear hg1
  go_wp2_with fail
  refine (HQ.out _).mono ?_
  rintro e w' ⟨rfl, rfl⟩
  have eN : IntKind.i64.wrap (-((q : Int) + 2)) = -((q : Int) + 2) := by rw [IntKind.wrap_i64]; omega
  go_wp2_with fail
  refine (HK.out _).mono ?_
  rintro e w6 ⟨rfl, hw6⟩
  obtain ⟨hg6, hb0, hb1, hb2, hb3, hb4, hb5⟩ := six_alloc hw6
  clear hw6
  have HL0 := Lib.hid (lieI_row [(q : Int) + 2, (q : Int) + 2] hb0 rfl)
  have HL1 := Lib.hid (lieI_row [(q : Int) + 2, (q : Int) + 2 - 1] hb1 rfl)
  have HL2 := Lib.hid (lieI_row [0] hb2 rfl)
  have HL3 := Lib.hid (lieI_row [(q : Int) + 2, 2008] hb3 rfl)
  have HL4 := Lib.hid (lieI_row [-((q : Int) + 2)] hb4 rfl)
  have HB := Lib.hid hb5
  have HG6 := Lib.hid (HG1.out.trans hg6)
  clear hb0 hb1 hb2 hb3 hb4 hb5 hg6
  generalize w1.heap.size = z at *
  rcases (show r = 0 ∨ r = 1 ∨ r = 2 ∨ r = 3 ∨ r = 4 ∨ r = 5 ∨ r = 6 ∨ r = 7 ∨ r = 8 from by omega) with rfl | rfl | rfl | rfl | rfl | rfl | rfl | rfl | rfl
  · have c0 := cell_of_row w6 (z + 1 + 1 + 1 + 1 + 1) 0 _ _ _ HB.out
    have c1 := cell_of_row w6 (z + 1 + 1 + 1 + 1 + 1) 1 _ _ _ HB.out
    have c2 := cell_of_row w6 (z + 1 + 1 + 1 + 1 + 1) 2 _ _ _ HB.out
    have c3 := cell_of_row w6 (z + 1 + 1 + 1 + 1 + 1) 3 _ _ _ HB.out
    simp only [List.getElem?_toArray, List.getElem?_cons_zero, List.getElem?_cons_succ] at c0 c1 c2 c3
    have hq := HBAD.out (0) 0 none 0 [] (by simp) (fun h => absurd h.1.1 (by decide)) w6 HG6.out (LieI.nil _ _)
    have HQB : Hid (Calls Tryd.prog 9 #[.agg #[.int .i64 (0), .int .i64 0, .bool false, .slice none 0 0]] w6 fun e w' => e = .returned (.tuple #[.slice none 0 0, .iface 69 (.pointer (some (A 2)))]) ∧ Gro none w6 w') := hq
    clear hq HBAD HQ HK HL0 HL1 HL2 HL3 HL4
    go_wp2_with fail
    clear c0 c1 c2 c3
    refine HQB.out.mono ?_
    rintro e w7 ⟨rfl, hg⟩
    have HG7 := Lib.hid (HG6.out.trans hg)
    clear hg HQB
    go_wp2_with fail
    refine (HIS.out _ HG7.out).mono ?_
    rintro e w8 ⟨rfl, hg⟩
    have HG8 := Lib.hid (HG7.out.trans hg)
    clear hg
    go_wp2_with fail
    refine (HHAS.out _ _ HG8.out).mono ?_
    rintro e w9 ⟨rfl, hg⟩
    have HG9 := Lib.hid (HG8.out.trans hg)
    clear hg
    go_wp2_with fail
    go_ret
    exact ⟨rfl, (Far.refl _ _).gro HG9.out (Nat.le_refl _) (fun _ e => by cases e)⟩
  · have c0 := cell_of_row w6 (z + 1 + 1 + 1 + 1 + 1) 4 _ _ _ HB.out
    have c1 := cell_of_row w6 (z + 1 + 1 + 1 + 1 + 1) 5 _ _ _ HB.out
    have c2 := cell_of_row w6 (z + 1 + 1 + 1 + 1 + 1) 6 _ _ _ HB.out
    have c3 := cell_of_row w6 (z + 1 + 1 + 1 + 1 + 1) 7 _ _ _ HB.out
    simp only [List.getElem?_toArray, List.getElem?_cons_zero, List.getElem?_cons_succ] at c0 c1 c2 c3
    have hq := HBAD.out (0) 256 none 0 [] (by simp) (fun h => absurd h.1.2 (by decide)) w6 HG6.out (LieI.nil _ _)
    have HQB : Hid (Calls Tryd.prog 9 #[.agg #[.int .i64 (0), .int .i64 256, .bool false, .slice none 0 0]] w6 fun e w' => e = .returned (.tuple #[.slice none 0 0, .iface 69 (.pointer (some (A 2)))]) ∧ Gro none w6 w') := hq
    clear hq HBAD HQ HK HL0 HL1 HL2 HL3 HL4
    go_wp2_with fail
    clear c0 c1 c2 c3
    refine HQB.out.mono ?_
    rintro e w7 ⟨rfl, hg⟩
    have HG7 := Lib.hid (HG6.out.trans hg)
    clear hg HQB
    go_wp2_with fail
    refine (HIS.out _ HG7.out).mono ?_
    rintro e w8 ⟨rfl, hg⟩
    have HG8 := Lib.hid (HG7.out.trans hg)
    clear hg
    go_wp2_with fail
    refine (HHAS.out _ _ HG8.out).mono ?_
    rintro e w9 ⟨rfl, hg⟩
    have HG9 := Lib.hid (HG8.out.trans hg)
    clear hg
    go_wp2_with fail
    go_ret
    exact ⟨rfl, (Far.refl _ _).gro HG9.out (Nat.le_refl _) (fun _ e => by cases e)⟩
  · have c0 := cell_of_row w6 (z + 1 + 1 + 1 + 1 + 1) 8 _ _ _ HB.out
    have c1 := cell_of_row w6 (z + 1 + 1 + 1 + 1 + 1) 9 _ _ _ HB.out
    have c2 := cell_of_row w6 (z + 1 + 1 + 1 + 1 + 1) 10 _ _ _ HB.out
    have c3 := cell_of_row w6 (z + 1 + 1 + 1 + 1 + 1) 11 _ _ _ HB.out
    simp only [List.getElem?_toArray, List.getElem?_cons_zero, List.getElem?_cons_succ] at c0 c1 c2 c3
    have hq := HBAD.out (3) 3 none 0 [] (by simp) (fun h => absurd h.2.1.2 (by decide)) w6 HG6.out (LieI.nil _ _)
    have HQB : Hid (Calls Tryd.prog 9 #[.agg #[.int .i64 (3), .int .i64 3, .bool false, .slice none 0 0]] w6 fun e w' => e = .returned (.tuple #[.slice none 0 0, .iface 69 (.pointer (some (A 2)))]) ∧ Gro none w6 w') := hq
    clear hq HBAD HQ HK HL0 HL1 HL2 HL3 HL4
    go_wp2_with fail
    clear c0 c1 c2 c3
    refine HQB.out.mono ?_
    rintro e w7 ⟨rfl, hg⟩
    have HG7 := Lib.hid (HG6.out.trans hg)
    clear hg HQB
    go_wp2_with fail
    refine (HIS.out _ HG7.out).mono ?_
    rintro e w8 ⟨rfl, hg⟩
    have HG8 := Lib.hid (HG7.out.trans hg)
    clear hg
    go_wp2_with fail
    refine (HHAS.out _ _ HG8.out).mono ?_
    rintro e w9 ⟨rfl, hg⟩
    have HG9 := Lib.hid (HG8.out.trans hg)
    clear hg
    go_wp2_with fail
    go_ret
    exact ⟨rfl, (Far.refl _ _).gro HG9.out (Nat.le_refl _) (fun _ e => by cases e)⟩
  · have c0 := cell_of_row w6 (z + 1 + 1 + 1 + 1 + 1) 12 _ _ _ HB.out
    have c1 := cell_of_row w6 (z + 1 + 1 + 1 + 1 + 1) 13 _ _ _ HB.out
    have c2 := cell_of_row w6 (z + 1 + 1 + 1 + 1 + 1) 14 _ _ _ HB.out
    have c3 := cell_of_row w6 (z + 1 + 1 + 1 + 1 + 1) 15 _ _ _ HB.out
    simp only [List.getElem?_toArray, List.getElem?_cons_zero, List.getElem?_cons_succ] at c0 c1 c2 c3
    have hq := HBAD.out (-1) 3 none 0 [] (by simp) (fun h => absurd h.2.1.1 (by decide)) w6 HG6.out (LieI.nil _ _)
    have HQB : Hid (Calls Tryd.prog 9 #[.agg #[.int .i64 (-1), .int .i64 3, .bool false, .slice none 0 0]] w6 fun e w' => e = .returned (.tuple #[.slice none 0 0, .iface 69 (.pointer (some (A 2)))]) ∧ Gro none w6 w') := hq
    clear hq HBAD HQ HK HL0 HL1 HL2 HL3 HL4
    go_wp2_with fail
    clear c0 c1 c2 c3
    refine HQB.out.mono ?_
    rintro e w7 ⟨rfl, hg⟩
    have HG7 := Lib.hid (HG6.out.trans hg)
    clear hg HQB
    go_wp2_with fail
    refine (HIS.out _ HG7.out).mono ?_
    rintro e w8 ⟨rfl, hg⟩
    have HG8 := Lib.hid (HG7.out.trans hg)
    clear hg
    go_wp2_with fail
    refine (HHAS.out _ _ HG8.out).mono ?_
    rintro e w9 ⟨rfl, hg⟩
    have HG9 := Lib.hid (HG8.out.trans hg)
    clear hg
    go_wp2_with fail
    go_ret
    exact ⟨rfl, (Far.refl _ _).gro HG9.out (Nat.le_refl _) (fun _ e => by cases e)⟩
  · have c0 := cell_of_row w6 (z + 1 + 1 + 1 + 1 + 1) 16 _ _ _ HB.out
    have c1 := cell_of_row w6 (z + 1 + 1 + 1 + 1 + 1) 17 _ _ _ HB.out
    have c2 := cell_of_row w6 (z + 1 + 1 + 1 + 1 + 1) 18 _ _ _ HB.out
    have c3 := cell_of_row w6 (z + 1 + 1 + 1 + 1 + 1) 19 _ _ _ HB.out
    simp only [List.getElem?_toArray, List.getElem?_cons_zero, List.getElem?_cons_succ] at c0 c1 c2 c3
    have hq := HBAD.out (0) 1 (some ⟨z, 0, none⟩) 2 [(q : Int) + 2, (q : Int) + 2] (by simp) (fun h => absurd (h.2.2 1 (by simp)).1 (by simp)) w6 HG6.out HL0.out
    have HQB : Hid (Calls Tryd.prog 9 #[.agg #[.int .i64 (0), .int .i64 1, .bool false, .slice (some ⟨z, 0, none⟩) 2 2]] w6 fun e w' => e = .returned (.tuple #[.slice none 0 0, .iface 69 (.pointer (some (A 2)))]) ∧ Gro none w6 w') := hq
    clear hq HBAD HQ HK HL0 HL1 HL2 HL3 HL4
    go_wp2_with fail
    clear c0 c1 c2 c3
    refine HQB.out.mono ?_
    rintro e w7 ⟨rfl, hg⟩
    have HG7 := Lib.hid (HG6.out.trans hg)
    clear hg HQB
    go_wp2_with fail
    refine (HIS.out _ HG7.out).mono ?_
    rintro e w8 ⟨rfl, hg⟩
    have HG8 := Lib.hid (HG7.out.trans hg)
    clear hg
    go_wp2_with fail
    refine (HHAS.out _ _ HG8.out).mono ?_
    rintro e w9 ⟨rfl, hg⟩
    have HG9 := Lib.hid (HG8.out.trans hg)
    clear hg
    go_wp2_with fail
    go_ret
    exact ⟨rfl, (Far.refl _ _).gro HG9.out (Nat.le_refl _) (fun _ e => by cases e)⟩
  · have c0 := cell_of_row w6 (z + 1 + 1 + 1 + 1 + 1) 20 _ _ _ HB.out
    have c1 := cell_of_row w6 (z + 1 + 1 + 1 + 1 + 1) 21 _ _ _ HB.out
    have c2 := cell_of_row w6 (z + 1 + 1 + 1 + 1 + 1) 22 _ _ _ HB.out
    have c3 := cell_of_row w6 (z + 1 + 1 + 1 + 1 + 1) 23 _ _ _ HB.out
    simp only [List.getElem?_toArray, List.getElem?_cons_zero, List.getElem?_cons_succ] at c0 c1 c2 c3
    have hq := HBAD.out (0) 1 (some ⟨z + 1, 0, none⟩) 2 [(q : Int) + 2, (q : Int) + 2 - 1] (by simp) (fun h => absurd (h.2.2 1 (by simp)).1 (by simp; omega)) w6 HG6.out HL1.out
    have HQB : Hid (Calls Tryd.prog 9 #[.agg #[.int .i64 (0), .int .i64 1, .bool false, .slice (some ⟨z + 1, 0, none⟩) 2 2]] w6 fun e w' => e = .returned (.tuple #[.slice none 0 0, .iface 69 (.pointer (some (A 2)))]) ∧ Gro none w6 w') := hq
    clear hq HBAD HQ HK HL0 HL1 HL2 HL3 HL4
    go_wp2_with fail
    clear c0 c1 c2 c3
    refine HQB.out.mono ?_
    rintro e w7 ⟨rfl, hg⟩
    have HG7 := Lib.hid (HG6.out.trans hg)
    clear hg HQB
    go_wp2_with fail
    refine (HIS.out _ HG7.out).mono ?_
    rintro e w8 ⟨rfl, hg⟩
    have HG8 := Lib.hid (HG7.out.trans hg)
    clear hg
    go_wp2_with fail
    refine (HHAS.out _ _ HG8.out).mono ?_
    rintro e w9 ⟨rfl, hg⟩
    have HG9 := Lib.hid (HG8.out.trans hg)
    clear hg
    go_wp2_with fail
    go_ret
    exact ⟨rfl, (Far.refl _ _).gro HG9.out (Nat.le_refl _) (fun _ e => by cases e)⟩
  · have c0 := cell_of_row w6 (z + 1 + 1 + 1 + 1 + 1) 24 _ _ _ HB.out
    have c1 := cell_of_row w6 (z + 1 + 1 + 1 + 1 + 1) 25 _ _ _ HB.out
    have c2 := cell_of_row w6 (z + 1 + 1 + 1 + 1 + 1) 26 _ _ _ HB.out
    have c3 := cell_of_row w6 (z + 1 + 1 + 1 + 1 + 1) 27 _ _ _ HB.out
    simp only [List.getElem?_toArray, List.getElem?_cons_zero, List.getElem?_cons_succ] at c0 c1 c2 c3
    have hq := HBAD.out (0) 1 (some ⟨z + 1 + 1, 0, none⟩) 1 [0] (by simp) (fun h => absurd (h.2.2 0 (by simp)).1 (by simp)) w6 HG6.out HL2.out
    have HQB : Hid (Calls Tryd.prog 9 #[.agg #[.int .i64 (0), .int .i64 1, .bool false, .slice (some ⟨z + 1 + 1, 0, none⟩) 1 1]] w6 fun e w' => e = .returned (.tuple #[.slice none 0 0, .iface 69 (.pointer (some (A 2)))]) ∧ Gro none w6 w') := hq
    clear hq HBAD HQ HK HL0 HL1 HL2 HL3 HL4
    go_wp2_with fail
    clear c0 c1 c2 c3
    refine HQB.out.mono ?_
    rintro e w7 ⟨rfl, hg⟩
    have HG7 := Lib.hid (HG6.out.trans hg)
    clear hg HQB
    go_wp2_with fail
    refine (HIS.out _ HG7.out).mono ?_
    rintro e w8 ⟨rfl, hg⟩
    have HG8 := Lib.hid (HG7.out.trans hg)
    clear hg
    go_wp2_with fail
    refine (HHAS.out _ _ HG8.out).mono ?_
    rintro e w9 ⟨rfl, hg⟩
    have HG9 := Lib.hid (HG8.out.trans hg)
    clear hg
    go_wp2_with fail
    go_ret
    exact ⟨rfl, (Far.refl _ _).gro HG9.out (Nat.le_refl _) (fun _ e => by cases e)⟩
  · have c0 := cell_of_row w6 (z + 1 + 1 + 1 + 1 + 1) 28 _ _ _ HB.out
    have c1 := cell_of_row w6 (z + 1 + 1 + 1 + 1 + 1) 29 _ _ _ HB.out
    have c2 := cell_of_row w6 (z + 1 + 1 + 1 + 1 + 1) 30 _ _ _ HB.out
    have c3 := cell_of_row w6 (z + 1 + 1 + 1 + 1 + 1) 31 _ _ _ HB.out
    simp only [List.getElem?_toArray, List.getElem?_cons_zero, List.getElem?_cons_succ] at c0 c1 c2 c3
    have hq := HBAD.out (0) 1 (some ⟨z + 1 + 1 + 1, 0, none⟩) 2 [(q : Int) + 2, 2008] (by simp) (fun h => absurd (h.2.2 1 (by simp)).2 (by simp)) w6 HG6.out HL3.out
    have HQB : Hid (Calls Tryd.prog 9 #[.agg #[.int .i64 (0), .int .i64 1, .bool false, .slice (some ⟨z + 1 + 1 + 1, 0, none⟩) 2 2]] w6 fun e w' => e = .returned (.tuple #[.slice none 0 0, .iface 69 (.pointer (some (A 2)))]) ∧ Gro none w6 w') := hq
    clear hq HBAD HQ HK HL0 HL1 HL2 HL3 HL4
    go_wp2_with fail
    clear c0 c1 c2 c3
    refine HQB.out.mono ?_
    rintro e w7 ⟨rfl, hg⟩
    have HG7 := Lib.hid (HG6.out.trans hg)
    clear hg HQB
    go_wp2_with fail
    refine (HIS.out _ HG7.out).mono ?_
    rintro e w8 ⟨rfl, hg⟩
    have HG8 := Lib.hid (HG7.out.trans hg)
    clear hg
    go_wp2_with fail
    refine (HHAS.out _ _ HG8.out).mono ?_
    rintro e w9 ⟨rfl, hg⟩
    have HG9 := Lib.hid (HG8.out.trans hg)
    clear hg
    go_wp2_with fail
    go_ret
    exact ⟨rfl, (Far.refl _ _).gro HG9.out (Nat.le_refl _) (fun _ e => by cases e)⟩
  · have c0 := cell_of_row w6 (z + 1 + 1 + 1 + 1 + 1) 32 _ _ _ HB.out
    have c1 := cell_of_row w6 (z + 1 + 1 + 1 + 1 + 1) 33 _ _ _ HB.out
    have c2 := cell_of_row w6 (z + 1 + 1 + 1 + 1 + 1) 34 _ _ _ HB.out
    have c3 := cell_of_row w6 (z + 1 + 1 + 1 + 1 + 1) 35 _ _ _ HB.out
    simp only [List.getElem?_toArray, List.getElem?_cons_zero, List.getElem?_cons_succ] at c0 c1 c2 c3
    have hq := HBAD.out (0) 1 (some ⟨z + 1 + 1 + 1 + 1, 0, none⟩) 1 [-((q : Int) + 2)] (by simp) (fun h => absurd (h.2.2 0 (by simp)).1 (by simp; omega)) w6 HG6.out HL4.out
    have HQB : Hid (Calls Tryd.prog 9 #[.agg #[.int .i64 (0), .int .i64 1, .bool false, .slice (some ⟨z + 1 + 1 + 1 + 1, 0, none⟩) 1 1]] w6 fun e w' => e = .returned (.tuple #[.slice none 0 0, .iface 69 (.pointer (some (A 2)))]) ∧ Gro none w6 w') := hq
    clear hq HBAD HQ HK HL0 HL1 HL2 HL3 HL4
    go_wp2_with fail
    clear c0 c1 c2 c3
    refine HQB.out.mono ?_
    rintro e w7 ⟨rfl, hg⟩
    have HG7 := Lib.hid (HG6.out.trans hg)
    clear hg HQB
    go_wp2_with fail
    refine (HIS.out _ HG7.out).mono ?_
    rintro e w8 ⟨rfl, hg⟩
    have HG8 := Lib.hid (HG7.out.trans hg)
    clear hg
    go_wp2_with fail
    refine (HHAS.out _ _ HG8.out).mono ?_
    rintro e w9 ⟨rfl, hg⟩
    have HG9 := Lib.hid (HG8.out.trans hg)
    clear hg
    go_wp2_with fail
    go_ret
    exact ⟨rfl, (Far.refl _ _).gro HG9.out (Nat.le_refl _) (fun _ e => by cases e)⟩
end Go.Proofs.YtchoeafkjgcmbaaDoor
