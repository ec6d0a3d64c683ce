/-
  THE WALK OF PsOne: for every station, category and number of askings it answers true. Conditions: the sentinels lie ('Sent').
-/
import Derived.Test.YtkklnocbbpaipaaDoorPsZ
namespace Go.Proofs.YtkklnocbbpaipaaDoor
open Go.RowKit

/-- The station asleep: asked for one, or not. -/
def slp (po : Bool) : One := ⟨true, true, po, false, true, true, true, true, 0, 0⟩
def awk : One := ⟨true, false, false, false, true, true, true, true, 0, 0⟩
def OInv (W : World) (A : Nat → Addr) (b j : Nat) (n : Nat) (i : Value) (wr : World) : Prop := ∃ k : Nat, k ≤ n ∧ i = .int .i64 k ∧ PZ W A b j (slp (decide (0 < k))) wr
theorem slp_may (po : Bool) (ac : Int) (h0 : 0 ≤ ac) (h4 : ac < 4) : mayO (slp po) ac = po := by simp [mayO, slp]
theorem awk_may (ac : Int) : mayO awk ac = true := by simp [mayO, awk]

set_option maxHeartbeats 2000000 in
set_option maxRecDepth 100000 in
theorem one_any (A : Nat → Addr) (x y z : Int) (W : World) (hs : Sent W.heap.size W A) :
    Calls Tryd.prog 4 #[.int .i64 x, .int .i64 y, .int .i64 z] W fun e w' => e = .returned (.bool true) ∧ Far W.heap.size W w' := by
  have HS := Lib.hid hs
  obtain ⟨j, hj⟩ := Int.eq_ofNat_of_zero_le (Int.emod_nonneg x (show (16 : Int) ≠ 0 by decide))
  have hj16 : j < 16 := by have := Int.emod_lt_of_pos x (show (0 : Int) < 16 by decide); omega
  obtain ⟨ac, hac⟩ := Int.eq_ofNat_of_zero_le (Int.emod_nonneg y (show (4 : Int) ≠ 0 by decide))
  have hac4 : ac < 4 := by have := Int.emod_lt_of_pos y (show (0 : Int) < 4 by decide); omega
  obtain ⟨n, hn⟩ := Int.eq_ofNat_of_zero_le (Int.emod_nonneg z (show (4 : Int) ≠ 0 by decide))
  have hn4 : n < 4 := by have := Int.emod_lt_of_pos z (show (0 : Int) < 4 by decide); omega
  have HJ := Lib.hid hj
  have HA := Lib.hid hac
  have HN := Lib.hid hn
  have a0 : 0 ≤ (ac : Int) := by omega
  have a4 : (ac : Int) < 4 := by omega
  clear hs hj hac hn
  go_enter Tryd.func4, Tryd.ntmps4
  go_wp2_with fail
  refine (first_any W).mono ?_
  rintro e w1 ⟨rfl, hg1⟩
  have hF1 : Far W.heap.size W w1 := (Far.refl _ _).gro hg1 (Nat.le_refl _) (fun _ e => by cases e)
  have hb : W.heap.size ≤ w1.heap.size := hg1.size
  clear hg1
  go_wp2_with fail
  refine (number_val x 16 j w1 HJ.out (by decide) (by decide)).mono ?_
  rintro e w' ⟨rfl, rfl⟩
  go_wp2_with fail
  refine (number_val y 4 ac w1 HA.out (by decide) (by decide)).mono ?_
  rintro e w' ⟨rfl, rfl⟩
  go_wp2_with fail
  refine (number_val z 4 n w1 HN.out (by decide) (by decide)).mono ?_
  rintro e w' ⟨rfl, rfl⟩
  go_wp2_with (refine wpList_alloc_as rfl 29 rfl powZ (alloc_run _) ?_)
  have hP1 := pow_new w1
  have hF2 : Far W.heap.size W (w1.alloc powZ) := hF1.gro ((Gro.refl none _).alloc _) hb (fun _ e => by cases e)
  generalize w1.alloc powZ = w2 at *
  generalize w1.heap.size = b at *
  clear hF1
  refine (z_add hP1 hF2 HS.out hb hj16 _ 0 true true true true rfl (by decide) (by decide)).mono ?_
  rintro e w3 ⟨rfl, h3⟩
  clear hP1 hF2
  go_wp2_with fail
  refine (z_may h3 _ _ rfl rfl a0 a4 true rfl).mono ?_
  rintro e w' ⟨rfl, rfl⟩
  go_wp2_with fail
  refine (z_doze h3 _ true rfl rfl (slp false) rfl).mono ?_
  rintro e w4 ⟨rfl, h4⟩
  clear h3
  go_wp2_with fail
  refine (z_may h4 _ _ rfl rfl a0 a4 false rfl).mono ?_
  rintro e w' ⟨rfl, rfl⟩
  go_wp2_with fail
  go_loopw [9] (fun i wr => OInv W A b j (n + 1) i wr) (fun i _ => 5 - (intOf i).toNat)
  case atStart => exact ⟨0, Nat.zero_le _, rfl, h4⟩
  case round =>
    clear h4
    obtain ⟨k, hk, rfl, hZ⟩ := hrel
    by_cases hlt : k < n + 1
    · go_wp2_with fail
      refine (z_poll hZ _ rfl rfl rfl rfl (slp true) rfl).mono ?_
      rintro e w5 ⟨rfl, h5⟩
      clear hZ
      go_wp2_with fail
      refine (z_may h5 _ _ rfl rfl a0 a4 true (slp_may _ _ a0 a4)).mono ?_
      rintro e w' ⟨rfl, rfl⟩
      go_wp2_with fail
      refine (z_polled h5 _ rfl rfl true rfl).mono ?_
      rintro e w' ⟨rfl, rfl⟩
      go_wp2_with fail
      go_roundw
      case rel => exact ⟨k + 1, by omega, by go_num, by simpa using h5⟩
      case measure => simp [intOf]; omega
    · obtain rfl : k = n + 1 := by omega
      have h5 : PZ W A b j (slp true) wr := by simpa using hZ
      clear hZ
      go_wp2_with fail
      refine (z_sent_polled h5 _ _ true rfl rfl a0 a4 rfl rfl (slp false) rfl).mono ?_
      rintro e w6 ⟨rfl, h6⟩
      clear h5
      go_wp2_with fail
      refine (z_sent_no h6 _ _ true rfl rfl a0 a4 (slp_may _ _ a0 a4)).mono ?_
      rintro e w7 ⟨rfl, h7⟩
      clear h6
      go_wp2_with fail
      refine (z_poll h7 _ rfl rfl rfl rfl (slp true) rfl).mono ?_
      rintro e w8 ⟨rfl, h8⟩
      clear h7
      go_wp2_with fail
      refine (z_trigger_no h8 _ _ rfl rfl a0 a4 (by simp [trigOk, slp])).mono ?_
      rintro e w' ⟨rfl, rfl⟩
      go_wp2_with fail
      refine (z_doze h8 _ false rfl rfl awk rfl).mono ?_
      rintro e w9 ⟨rfl, h9⟩
      clear h8
      go_wp2_with fail
      refine (z_may h9 _ _ rfl rfl a0 a4 true (awk_may _)).mono ?_
      rintro e w' ⟨rfl, rfl⟩
      go_wp2_with fail
      refine (z_doze h9 _ true rfl rfl (slp false) rfl).mono ?_
      rintro e w10 ⟨rfl, h10⟩
      clear h9
      go_wp2_with fail
      refine (z_is h10 10 (by decide) 110 true (by decide)).mono ?_
      rintro e w11 ⟨rfl, h11⟩
      clear h10
      go_wp2_with fail
      refine (z_is h11 10 (by decide) 110 true (by decide)).mono ?_
      rintro e w12 ⟨rfl, h12⟩
      clear h11
      go_wp2_with fail
      refine (z_may h12 _ _ rfl rfl a0 a4 false (slp_may _ _ a0 a4)).mono ?_
      rintro e w' ⟨rfl, rfl⟩
      go_wp2_with fail
      go_ret
      exact ⟨rfl, h12.far⟩
end Go.Proofs.YtkklnocbbpaipaaDoor
