/-
  THE WALK OF PsPeriods: for every bound of a period, every number of transmissions, whichever categories, it answers true. Conditions: the sentinels lie ('Sent').
-/
import Derived.Test.YtkklnocbbpaipaaDoorPsZ
namespace Go.Proofs.YtkklnocbbpaipaaDoor
open Go.RowKit

def ofU (u0 u1 u2 u3 : Bool) (ac : Int) : Bool := if ac = 0 then u0 else if ac = 1 then u1 else if ac = 2 then u2 else u3
/-- Asleep, no period. -/
def shut (u0 u1 u2 u3 : Bool) (m l : Int) : One := ⟨true, true, false, false, u0, u1, u2, u3, m, l⟩
/-- Asleep, in a period. -/
def opened (u0 u1 u2 u3 : Bool) (m l : Int) : One := ⟨true, true, false, true, u0, u1, u2, u3, m, l⟩
theorem shut_may (u0 u1 u2 u3 : Bool) (m l ac : Int) : mayO (shut u0 u1 u2 u3 m l) ac = false := by simp [mayO, shut]
theorem opened_may (u0 u1 u2 u3 : Bool) (m l ac : Int) : mayO (opened u0 u1 u2 u3 m l) ac = ofU u0 u1 u2 u3 ac := by simp [mayO, opened, uOf, ofU]
theorem shut_trig (u0 u1 u2 u3 : Bool) (m l ac : Int) : trigOk (shut u0 u1 u2 u3 m l) ac = ofU u0 u1 u2 u3 ac := by simp [trigOk, shut, uOf, ofU]

/-- What is left behind i transmissions. -/
def leftAt (m : Int) (i : Nat) : Int := if 0 < m then m - i else m
theorem last_at (u0 u1 u2 u3 : Bool) (m : Int) (i : Nat) : lastO (opened u0 u1 u2 u3 m (leftAt m i)) = (decide (0 < m) && decide ((i : Int) + 1 = m)) := by
  unfold lastO opened leftAt
  by_cases h : 0 < m
  · simp only [h, decide_true, Bool.true_and, if_true]
    rw [Bool.eq_iff_iff]
    simp
    omega
  · simp [h]
theorem sent_more (u0 u1 u2 u3 : Bool) (m : Int) (i : Nat) (h : lastO (opened u0 u1 u2 u3 m (leftAt m i)) = false) : sentO (opened u0 u1 u2 u3 m (leftAt m i)) true = opened u0 u1 u2 u3 m (leftAt m (i + 1)) := by
  unfold sentO
  rw [h]
  by_cases h0 : 0 < m
  · simp [opened, leftAt, h0]; omega
  · simp [opened, leftAt, h0]
theorem sent_end (o : One) (more : Bool) (h : (lastO o || !more) = true) : sentO o more = { o with op := false, left := 0 } := by
  unfold sentO; rw [if_pos h]

def EInv1 (W : World) (A : Nat → Addr) (b : Nat) (o : One) (u : Nat) (u0 u1 u2 u3 : Bool) (i : Value) (wr : World) : Prop :=
  ∃ k : Nat, k ≤ 4 ∧ i = .int .i64 k ∧ PZ W A b 1 o wr ∧ wr.heap[u]? = some (.cells #[.bool u0, .bool u1, .bool u2, .bool u3] 23 (0, 0))
def EInv2 (W : World) (A : Nat → Addr) (b : Nat) (u0 u1 u2 u3 : Bool) (m : Int) (n : Nat) (i : Value) (wr : World) : Prop :=
  ∃ k : Nat, k < n ∧ (0 < m → (k : Int) < m) ∧ i = .int .i64 (k + 1) ∧ PZ W A b 1 (opened u0 u1 u2 u3 m (leftAt m k)) wr

set_option maxHeartbeats 1000000 in
set_option maxRecDepth 100000 in
theorem periods_any (A : Nat → Addr) (x y z : Int) (u0 u1 u2 u3 : Bool) (W : World) (hs : Sent W.heap.size W A) :
    Calls Tryd.prog 5 #[.int .i64 x, .int .i64 y, .agg #[.bool u0, .bool u1, .bool u2, .bool u3], .int .i64 z] W fun e w' => e = .returned (.bool true) ∧ Far W.heap.size W w' := by
  have HS := Lib.hid hs
  obtain ⟨m, hm⟩ := Int.eq_ofNat_of_zero_le (Int.emod_nonneg x (show (9 : Int) ≠ 0 by decide))
  have hm9 : m < 9 := by have := Int.emod_lt_of_pos x (show (0 : Int) < 9 by decide); omega
  obtain ⟨n, hn⟩ := Int.eq_ofNat_of_zero_le (Int.emod_nonneg y (show (12 : Int) ≠ 0 by decide))
  have hn12 : n < 12 := by have := Int.emod_lt_of_pos y (show (0 : Int) < 12 by decide); omega
  obtain ⟨ac, hac⟩ := Int.eq_ofNat_of_zero_le (Int.emod_nonneg z (show (4 : Int) ≠ 0 by decide))
  have hac4 : ac < 4 := by have := Int.emod_lt_of_pos z (show (0 : Int) < 4 by decide); omega
  have HM := Lib.hid hm
  have HN := Lib.hid hn
  have HA := Lib.hid hac
  have a0 : 0 ≤ (ac : Int) := by omega
  have a4 : (ac : Int) < 4 := by omega
  clear hs hm hn hac
  have hg0 : Gro none W (W.alloc (.cells #[.bool u0, .bool u1, .bool u2, .bool u3] 23)) := (Gro.refl _ _).alloc _
  have hx0 : (W.alloc (.cells #[.bool u0, .bool u1, .bool u2, .bool u3] 23)).heap[W.heap.size]? = some (.cells #[.bool u0, .bool u1, .bool u2, .bool u3] 23 (0, 0)) := heap_alloc_new _ _
  have hfst := Lib.hid (first_any (W.alloc (.cells #[.bool u0, .bool u1, .bool u2, .bool u3] 23)))
  have hsz0 : Hid ((W.alloc (.cells #[.bool u0, .bool u1, .bool u2, .bool u3] 23)).heap.size = W.heap.size + 1) := by simp [Hid]
  go_enter Tryd.func5, Tryd.ntmps5
  go_wp2_with fail
  generalize W.alloc (.cells #[.bool u0, .bool u1, .bool u2, .bool u3] 23) = W0 at *
  refine hfst.out.mono ?_
  rintro e w1 ⟨rfl, hg1⟩
  have hx1 := (hg1.block W.heap.size (by have := hsz0.out; omega) (by simp)).trans hx0
  have hF1 : Far W.heap.size W w1 := ((Far.refl _ _).gro hg0 (Nat.le_refl _) (fun _ e => by cases e)).gro hg1 hg0.size (fun _ e => by cases e)
  have hb : W.heap.size < w1.heap.size := by have := hg1.size; have := hsz0.out; omega
  clear hfst hg0 hx0 hg1 hsz0
  go_wp2_with fail
  refine (number_val x 9 m w1 HM.out (by decide) (by decide)).mono ?_
  rintro e w' ⟨rfl, rfl⟩
  go_wp2_with fail
  refine (number_val y 12 n w1 HN.out (by decide) (by decide)).mono ?_
  rintro e w' ⟨rfl, rfl⟩
  go_wp2_with fail
  refine (number_val z 4 ac w1 HA.out (by decide) (by decide)).mono ?_
  rintro e w' ⟨rfl, rfl⟩
  have hP1 := pow_new w1
  have k1 : Gro none w1 (w1.alloc powZ) := (Gro.refl none _).alloc _
  have hF2 : Far W.heap.size W (w1.alloc powZ) := hF1.gro k1 (by omega) (fun _ e => by cases e)
  have hx2 := (k1.block W.heap.size hb (by simp)).trans hx1
  have hbb : W.heap.size ≤ w1.heap.size := by omega
  have hub2 : W.heap.size < (w1.alloc powZ).heap.size := by simp; omega
  obtain ⟨q0, q1, q2, q3⟩ : ((w1.alloc powZ).cell? ⟨W.heap.size, 0, none⟩ = some (.bool u0)) ∧ ((w1.alloc powZ).cell? ⟨W.heap.size, 1, none⟩ = some (.bool u1)) ∧ ((w1.alloc powZ).cell? ⟨W.heap.size, 2, none⟩ = some (.bool u2)) ∧ ((w1.alloc powZ).cell? ⟨W.heap.size, 3, none⟩ = some (.bool u3)) :=
    ⟨by rw [cell_of_row _ _ _ _ _ _ hx2]; rfl, by rw [cell_of_row _ _ _ _ _ _ hx2]; rfl, by rw [cell_of_row _ _ _ _ _ _ hx2]; rfl, by rw [cell_of_row _ _ _ _ _ _ hx2]; rfl⟩
  have hX2 := Lib.hid hx2
  have HP1 := Lib.hid hP1
  clear k1 hx2 hF1 hx1 hP1
  have c0 : w1.cell? ⟨W.heap.size, 0, none⟩ = some (.bool u0) := by rw [← q0, World.cell?_alloc_past _ _ _ hb]
  have c1 : w1.cell? ⟨W.heap.size, 1, none⟩ = some (.bool u1) := by rw [← q1, World.cell?_alloc_past _ _ _ hb]
  have c2 : w1.cell? ⟨W.heap.size, 2, none⟩ = some (.bool u2) := by rw [← q2, World.cell?_alloc_past _ _ _ hb]
  have c3 : w1.cell? ⟨W.heap.size, 3, none⟩ = some (.bool u3) := by rw [← q3, World.cell?_alloc_past _ _ _ hb]
  clear q0 q1 q2 q3
  go_wp2_with (refine wpList_alloc_as rfl 29 rfl powZ (alloc_run _) ?_)
  have hP1 := HP1.out
  clear c0 c1 c2 c3 HP1
  generalize w1.alloc powZ = w2 at *
  generalize w1.heap.size = b at *
  refine (add_in b 2 m u0 u1 u2 u3 1 w2 _ hP1 (by decide) (by decide) rfl (by omega) (by omega)).mono ?_
  rintro e w3 ⟨rfl, hg3, hQ3⟩
  have h3 : PZ W A b 1 ⟨true, false, false, false, u0, u1, u2, u3, m, 0⟩ w3 := by
    have hF := hF2.gro hg3 hF2.size (fun g e => by cases e; exact hbb)
    exact ⟨hQ3, hF, HS.out.far hF.block, hbb, by decide⟩
  have hX3 := Lib.hid ((hg3.block W.heap.size hub2 (by simp; omega)).trans hX2.out)
  clear hP1 hF2 hg3 hQ3 hX2
  go_wp2_with fail
  have hd3 : dozeO ⟨true, false, false, false, u0, u1, u2, u3, m, 0⟩ true = shut u0 u1 u2 u3 m 0 := rfl
  refine (doze_there b 2 true 1 w3 _ h3.pow (by decide) (by decide) (by rw [Z_same])).mono ?_
  rintro e w4 ⟨rfl, hg4, hQ4⟩
  have h4 : PZ W A b 1 (shut u0 u1 u2 u3 m 0) w4 := h3.put hg4 (by rw [Z_same, hd3] at hQ4; exact hQ4)
  have hX4 := Lib.hid ((hg4.block W.heap.size (by have := hX3.out; exact (Array.getElem?_eq_some_iff.1 this).1) (by have := h3.ne; simp; omega)).trans hX3.out)
  clear h3 hg4 hQ4 hX3 hd3
  by_cases hu : ofU u0 u1 u2 u3 ac = true
  · have hcu : w4.cell? ⟨W.heap.size, ac, none⟩ = some (.bool true) := by
      rw [cell_of_row _ _ _ _ _ _ hX4.out, ← hu]
      rcases (show ac = 0 ∨ ac = 1 ∨ ac = 2 ∨ ac = 3 from by omega) with rfl | rfl | rfl | rfl <;> rfl
    have HU := Lib.hid hu
    have ho : ({ shut u0 u1 u2 u3 m 0 with op := true, left := (shut u0 u1 u2 u3 m 0).most } : One) = opened u0 u1 u2 u3 m (leftAt m 0) := by
      unfold leftAt; simp [shut, opened]
    have HO := Lib.hid ho
    clear hu ho
    go_wp2_with fail
    refine (trigger_ok b 2 ac 1 w4 _ h4.pow (by decide) (by decide) (by rw [Z_same]; rfl) a0 a4 (by rw [Z_same, shut_trig]; exact HU.out)).mono ?_
    rintro e w5 ⟨rfl, hg5, hQ5⟩
    have h5 : PZ W A b 1 (opened u0 u1 u2 u3 m (leftAt m 0)) w5 := h4.put hg5 (by rw [Z_same, HO.out] at hQ5; exact hQ5)
    have hX5 := Lib.hid ((hg5.block W.heap.size (by have := hX4.out; exact (Array.getElem?_eq_some_iff.1 this).1) (by have := h4.ne; simp; omega)).trans hX4.out)
    have hcu5 : w5.cell? ⟨W.heap.size, ac, none⟩ = some (.bool true) := by
      rw [cell_of_row _ _ _ _ _ _ hX5.out, ← HU.out]
      rcases (show ac = 0 ∨ ac = 1 ∨ ac = 2 ∨ ac = 3 from by omega) with rfl | rfl | rfl | rfl <;> rfl
    clear h4 hg5 hQ5 hX4 hcu HO
    go_wp2_with fail
    refine (z_poll_no h5 2 (by decide) rfl (Or.inr rfl)).mono ?_
    rintro e w' ⟨rfl, rfl⟩
    go_wp2_with fail
    refine (is_any W.heap.size w5 A h5.sent h5.far.size 10 (by decide) 110).mono ?_
    rintro e w6 ⟨rfl, hg6⟩
    have hcd : decide (codeOf 10 = 110) = true := by decide
    have h6 := h5.same hg6
    have hX6 := Lib.hid ((hg6.block W.heap.size (by have := hX5.out; exact (Array.getElem?_eq_some_iff.1 this).1) (by simp)).trans hX5.out)
    clear h5 hg6 hX5 hcu5
    go_wp2_with fail
    clear hcd
    go_loopw [12] (fun i wr => EInv1 W A b (opened u0 u1 u2 u3 m (leftAt m 0)) W.heap.size u0 u1 u2 u3 i wr) (fun i _ => 4 - (intOf i).toNat)
    case atStart => exact ⟨0, Nat.zero_le _, rfl, h6, hX6.out⟩
    case round =>
      clear h6 hX6
      obtain ⟨k, hk, rfl, hZ, hX⟩ := hrel
      by_cases hlt : k < 4
      · have hcu : wr.cell? ⟨W.heap.size, k, none⟩ = some (.bool (ofU u0 u1 u2 u3 k)) := by
          rw [cell_of_row _ _ _ _ _ _ hX]
          rcases (show k = 0 ∨ k = 1 ∨ k = 2 ∨ k = 3 from by omega) with rfl | rfl | rfl | rfl <;> rfl
        have HM : Hid (∀ n, Calls Tryd.prog 13 #[.pointer (some ⟨b, 0, none⟩), .int .i64 2, .int .i64 (k : Int)] (wr.drewN n) fun e w' => e = .returned (.bool (ofU u0 u1 u2 u3 k)) ∧ w' = wr.drewN n) := fun n =>
          (z_may (hZ.same ((Gro.refl _ _).drewN n)) 2 k (by decide) rfl (by omega) (by omega) _ (opened_may _ _ _ _ _ _ _)).mono fun e w' ⟨he, hw⟩ => ⟨he, hw.symm⟩
        have hG : Hid (∀ n, PZ W A b 1 (opened u0 u1 u2 u3 m (leftAt m 0)) (wr.drewN n) ∧ (wr.drewN n).heap[W.heap.size]? = some (.cells #[.bool u0, .bool u1, .bool u2, .bool u3] 23 (0, 0))) := fun n => ⟨hZ.same ((Gro.refl _ _).drewN n), by cases n <;> exact hX⟩
        clear hZ hX
        generalize ofU u0 u1 u2 u3 (k : Int) = r at *
        go_wp2_with fail
        go_quiet ((go_at_call 13; exact Calls.quiet_of_same (HM.out _)))
        go_wp2_with fail
        go_roundw
        case rel => exact ⟨k + 1, by omega, by go_num, (hG.out _).1, (hG.out _).2⟩
        case measure => simp [intOf]; omega
      · obtain rfl : k = 4 := by omega
        go_wp2_with fail
        go_loopw [13] (fun i wr => EInv2 W A b u0 u1 u2 u3 m (n + 1) i wr) (fun i _ => 14 - (intOf i).toNat)
        case atStart => exact ⟨0, by omega, fun h => h, rfl, hZ⟩
        case round =>
          clear hZ hX
          obtain ⟨k, hk, hkm, rfl, hZ⟩ := hrel
          have lb1 : ∀ k : Nat, -1000 ≤ (opened u0 u1 u2 u3 m (leftAt m k)).left ∨ 1000 < k := by
            intro k; unfold opened leftAt; simp; split <;> omega
          have lb1 : Hid (-1000 ≤ (opened u0 u1 u2 u3 m (leftAt m k)).left) := by
            unfold Hid; have := lb1 k; omega
          have lb2 : Hid ((opened u0 u1 u2 u3 m (leftAt m k)).left ≤ 1000) := by
            unfold Hid opened leftAt; simp; split <;> omega
          by_cases e1 : k = n
          · have LB : Hid ((lastO (opened u0 u1 u2 u3 m (leftAt m k)) || !false) = true) := by simp [Hid]
            subst e1
            go_wp2_with fail
            refine (z_sent_period hZ 2 ac false (by decide) rfl a0 a4 rfl rfl rfl HU.out lb1.out lb2.out true LB.out (shut u0 u1 u2 u3 m 0) (sent_end _ _ LB.out)).mono ?_
            rintro e w9 ⟨rfl, h9⟩
            clear hZ
            go_wp2_with fail
            refine (z_may h9 2 ac (by decide) rfl a0 a4 false (shut_may _ _ _ _ _ _ _)).mono ?_
            rintro e w' ⟨rfl, rfl⟩
            go_wp2_with fail
            refine (z_close_no h9 2 (by decide) rfl rfl).mono ?_
            rintro e w' ⟨rfl, rfl⟩
            go_wp2_with fail
            refine (z_is h9 10 (by decide) 110 true (by decide)).mono ?_
            rintro e w10 ⟨rfl, h10⟩
            clear h9
            go_wp2_with fail
            go_ret
            exact ⟨rfl, h10.far⟩
          · by_cases e2 : 0 < (m : Int) ∧ (k : Int) + 1 = m
            · have LB : Hid ((lastO (opened u0 u1 u2 u3 m (leftAt m k)) || !true) = true) := by
                unfold Hid; rw [last_at, decide_eq_true e2.1, decide_eq_true e2.2]; rfl
              obtain ⟨e3, e4⟩ := e2
              have d1 : ((k : Int) == n) = false := by simp; omega
              have d1' : ((k : Int) + 1 == (n : Int) + 1) = false := by simp; omega
              have d2 : ((k : Int) + 1 == m) = true := by simp; omega
              have d7 : (k + 1 == m) = true := by simp; omega
              have d3 : decide (k < n) = true := by simp; omega
              have d6 : (k == n) = false := by simp; omega
              have E4 := Lib.hid e4
              clear e4 e1
              go_wp2_with fail
              refine (z_sent_period hZ 2 ac true (by decide) rfl a0 a4 rfl rfl rfl HU.out lb1.out lb2.out true LB.out (shut u0 u1 u2 u3 m 0) (sent_end _ _ LB.out)).mono ?_
              rintro e w9 ⟨rfl, h9⟩
              clear hZ
              go_wp2_with fail
              refine (z_may h9 2 ac (by decide) rfl a0 a4 false (shut_may _ _ _ _ _ _ _)).mono ?_
              rintro e w' ⟨rfl, rfl⟩
              go_wp2_with fail
              refine (z_close_no h9 2 (by decide) rfl rfl).mono ?_
              rintro e w' ⟨rfl, rfl⟩
              go_wp2_with fail
              refine (z_is h9 10 (by decide) 110 true (by decide)).mono ?_
              rintro e w10 ⟨rfl, h10⟩
              clear h9
              go_wp2_with fail
              go_ret
              exact ⟨rfl, h10.far⟩
            · have LB : Hid ((lastO (opened u0 u1 u2 u3 m (leftAt m k)) || !true) = false) := by
                unfold Hid; rw [last_at]; simp; intro h; omega
              have LL : Hid (lastO (opened u0 u1 u2 u3 m (leftAt m k)) = false) := by
                unfold Hid; rw [last_at]; simp; intro h; omega
              have d1 : ((k : Int) == n) = false := by simp; omega
              have d1' : ((k : Int) + 1 == (n : Int) + 1) = false := by simp; omega
              have d3 : decide (k < n) = true := by simp; omega
              have d6 : (k == n) = false := by simp; omega
              have d4 : (decide (0 < (m : Int)) && ((k : Int) + 1 == m)) = false := by simp; omega
              have E5 : Hid (0 < (m : Int) → ((k + 1 : Nat) : Int) < m) := by unfold Hid; intro h; have := hkm h; omega
              have E6 : Hid (k + 1 < n + 1) := by unfold Hid; omega
              clear hkm
              go_wp2_with fail
              refine (z_sent_period hZ 2 ac true (by decide) rfl a0 a4 rfl rfl rfl HU.out lb1.out lb2.out false LB.out _ (sent_more _ _ _ _ _ _ LL.out)).mono ?_
              rintro e w9 ⟨rfl, h9⟩
              clear hZ
              by_cases h0 : 0 < (m : Int)
              · have d5 : ((k : Int) + 1 == m) = false := by simp; omega
                go_wp2_with fail
                go_roundw
                case rel => first | exact ⟨k + 1, E6.out, E5.out, by go_num, h9⟩ | ((repeat apply Exists.intro); exact ⟨⟨k + 1, E6.out, E5.out, by go_num, h9⟩, rfl⟩)
                case measure => simp [intOf]; omega
              · go_wp2_with fail
                go_roundw
                case rel => first | exact ⟨k + 1, E6.out, E5.out, by go_num, h9⟩ | ((repeat apply Exists.intro); exact ⟨⟨k + 1, E6.out, E5.out, by go_num, h9⟩, rfl⟩)
                case measure => simp [intOf]; omega
  · have hu' : ofU u0 u1 u2 u3 ac = false := by simpa using hu
    have hcu : w4.cell? ⟨W.heap.size, ac, none⟩ = some (.bool false) := by
      rw [cell_of_row _ _ _ _ _ _ hX4.out, ← hu']
      rcases (show ac = 0 ∨ ac = 1 ∨ ac = 2 ∨ ac = 3 from by omega) with rfl | rfl | rfl | rfl <;> rfl
    clear hu hX4
    go_wp2_with fail
    refine (z_trigger_no h4 2 ac (by decide) rfl a0 a4 (by rw [shut_trig]; exact hu')).mono ?_
    rintro e w' ⟨rfl, rfl⟩
    have HU := Lib.hid hu'
    clear hu'
    go_wp2_with fail
    refine (z_is h4 10 (by decide) 110 true (by decide)).mono ?_
    rintro e w5 ⟨rfl, h5⟩
    clear h4
    go_wp2_with fail
    refine (z_may h5 2 ac (by decide) rfl a0 a4 false (shut_may _ _ _ _ _ _ _)).mono ?_
    rintro e w' ⟨rfl, rfl⟩
    go_wp2_with fail
    go_ret
    exact ⟨rfl, h5.far⟩
end Go.Proofs.YtkklnocbbpaipaaDoor
