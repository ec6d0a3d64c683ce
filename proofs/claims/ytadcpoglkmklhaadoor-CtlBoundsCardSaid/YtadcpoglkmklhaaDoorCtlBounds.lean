/-
  THE WALK OF CtlBounds: each number at its bound may be, one further may not; it answers true. No condition but the fourteen sentinels' own ('Sent').
-/
import Derived.Test.YtadcpoglkmklhaaDoorCtlR
import Derived.Test.YtadcpoglkmklhaaDoorFrame
namespace Go.Proofs.YtadcpoglkmklhaaDoor
open Go.RowKit

/-- Whatever two numbers, BarBytes tells an error or none. -/
theorem bar_all (B : Nat) (A : Nat → Addr) (W w : World) (hs : Sent B W A) (hB : B ≤ W.heap.size) (k : Gro none W w) (tid seq : Int) : Calls Tryd.prog 9 #[barV adZ adZ tid seq] w fun e w' => ∃ v, e = .returned (.tuple #[v, errV A (if okB tid seq then 0 else 3)]) ∧ Gro none w w' := by
  have hs' : Sent B w A := hs.far fun i hi => k.block i (by omega) (by simp)
  by_cases h : okB tid seq
  · rw [if_pos h]
    exact (bar_any _ _ _ _ w h).mono fun e w' ⟨v, he, hg, _⟩ => ⟨v, he, hg⟩
  · rw [if_neg h]
    exact (bar_bad _ _ _ _ _ w h hs'.c2 (by have := k.size; have := hs.big; omega)).mono fun e w' ⟨he, hg⟩ => ⟨_, he, hg⟩
theorem ack_all (B : Nat) (A : Nat → Addr) (W w : World) (hs : Sent B W A) (hB : B ≤ W.heap.size) (k : Gro none W w) (tid seq : Int) : Calls Tryd.prog 10 #[ackV adZ adZ tid seq 0] w fun e w' => ∃ v, e = .returned (.tuple #[v, errV A (if okB tid seq then 0 else 3)]) ∧ Gro none w w' := by
  have hs' : Sent B w A := hs.far fun i hi => k.block i (by omega) (by simp)
  by_cases h : okB tid seq
  · rw [if_pos h]
    exact (ack_any _ _ _ _ _ w h (by decide)).mono fun e w' ⟨v, he, hg, _⟩ => ⟨v, he, hg⟩
  · rw [if_neg h]
    exact (ack_bad _ _ _ _ _ _ w h hs'.c2 (by have := k.size; have := hs.big; omega)).mono fun e w' ⟨he, hg⟩ => ⟨_, he, hg⟩
theorem poll_all (B : Nat) (A : Nat → Addr) (W w : World) (hs : Sent B W A) (hB : B ≤ W.heap.size) (k : Gro none W w) (aid : Int) : Calls Tryd.prog 11 #[pollV aid adZ adZ] w fun e w' => ∃ v, e = .returned (.tuple #[v, errV A (if okP aid then 0 else 3)]) ∧ Gro none w w' := by
  have hs' : Sent B w A := hs.far fun i hi => k.block i (by omega) (by simp)
  by_cases h : okP aid
  · rw [if_pos h]
    exact (poll_any _ _ _ w h).mono fun e w' ⟨v, he, hg, _⟩ => ⟨v, he, hg⟩
  · rw [if_neg h]
    exact (poll_bad _ _ _ _ w h hs'.c2 (by have := k.size; have := hs.big; omega)).mono fun e w' ⟨he, hg⟩ => ⟨_, he, hg⟩

set_option maxHeartbeats 4000000 in
set_option maxRecDepth 100000 in
theorem bounds_any (n t a : Int) (A : Nat → Addr) (W : World) (hs : Sent W.heap.size W A) :
    Calls Tryd.prog 5 #[.int .i64 n, .int .i64 t, .int .i64 a] W fun e w' => e = .returned (.bool true) ∧ Far W.heap.size W w' := by
  obtain ⟨n0, hn0⟩ := Int.eq_ofNat_of_zero_le (Int.emod_nonneg n (show (5 : Int) ≠ 0 by decide))
  have hn5 : n0 < 5 := by have := Int.emod_lt_of_pos n (show (0 : Int) < 5 by decide); omega
  obtain ⟨t0, ht0⟩ := Int.eq_ofNat_of_zero_le (Int.emod_nonneg t (show (4 : Int) ≠ 0 by decide))
  have ht5 : t0 < 4 := by have := Int.emod_lt_of_pos t (show (0 : Int) < 4 by decide); omega
  obtain ⟨a0, ha0⟩ := Int.eq_ofNat_of_zero_le (Int.emod_nonneg a (show (5 : Int) ≠ 0 by decide))
  have ha5 : a0 < 5 := by have := Int.emod_lt_of_pos a (show (0 : Int) < 5 by decide); omega
  have HN := Lib.hid (fun w => number_at n 5 n0 w hn0 (by decide) (by decide))
  have HT := Lib.hid (fun w => number_at t 4 t0 w ht0 (by decide) (by decide))
  have HA := Lib.hid (fun w => number_at a 5 a0 w ha0 (by decide) (by decide))
  have HE := Lib.hid (fun w (k : Gro none W w) => bar_all _ A W w hs (Nat.le_refl _) k 0 (n0 + 4093))
  have HF := Lib.hid (fun w (k : Gro none W w) => ack_all _ A W w hs (Nat.le_refl _) k (t0 + 5) 0)
  have HG := Lib.hid (fun w (k : Gro none W w) => poll_all _ A W w hs (Nat.le_refl _) k (a0 + 2005))
  have HH := Lib.hid (fun w (k : Gro none W w) => poll_all _ A W w hs (Nat.le_refl _) k 0)
  have HI := Lib.hid (fun w (k : Gro none W w) => ack_all _ A W w hs (Nat.le_refl _) k 0 (-1))
  rw [if_neg (by decide)] at HH HI
  have HJ := Lib.hid (fun w (k : Gro none W w) => readAck_bad none 0 [] _ A w (hs.far fun i hi => k.block i hi (by simp)) k.size (Lie.nil _ _) (by decide))
  have HK := Lib.hid (fun w (k : Gro none W w) b hb (hl : Lie w (some b) [132]) => readPoll_bad (some b) 1 [132] _ A w (hs.far fun i hi => k.block i hi (by simp)) k.size hl hb)
  rw [show longR [] 148 28 = 1 from rfl] at HJ
  rw [show longR [132] 164 16 = 5 from rfl] at HK
  have HS := Lib.hid (fun w (k : Gro none W w) i hi c => is_any W.heap.size w A (hs.far fun i hi => k.block i hi (by simp)) k.size i hi c)
  obtain ⟨kn, hkn⟩ : ∃ kn, kn = (if okB 0 ((n0 : Int) + 4093) then 0 else 3) := ⟨_, rfl⟩
  obtain ⟨kt, hkt⟩ : ∃ kt, kt = (if okB ((t0 : Int) + 5) 0 then 0 else 3) := ⟨_, rfl⟩
  obtain ⟨ka, hka⟩ : ∃ ka, ka = (if okP ((a0 : Int) + 2005) then 0 else 3) := ⟨_, rfl⟩
  rw [← hkn] at HE
  rw [← hkt] at HF
  rw [← hka] at HG
  have en : (kn = 0 ∧ (n0 : Int) + 4093 ≤ 4095) ∨ (kn = 3 ∧ ¬ (n0 : Int) + 4093 ≤ 4095) := by
    by_cases h : (n0 : Int) + 4093 ≤ 4095
    · exact .inl ⟨by rw [hkn, if_pos (by unfold okB; omega)], h⟩
    · exact .inr ⟨by rw [hkn, if_neg (by unfold okB; omega)], h⟩
  have et : (kt = 0 ∧ (t0 : Int) + 5 ≤ 7) ∨ (kt = 3 ∧ ¬ (t0 : Int) + 5 ≤ 7) := by
    by_cases h : (t0 : Int) + 5 ≤ 7
    · exact .inl ⟨by rw [hkt, if_pos (by unfold okB; omega)], h⟩
    · exact .inr ⟨by rw [hkt, if_neg (by unfold okB; omega)], h⟩
  have ea : (ka = 0 ∧ (a0 : Int) + 2005 ≤ 2007) ∨ (ka = 3 ∧ ¬ (a0 : Int) + 2005 ≤ 2007) := by
    by_cases h : (a0 : Int) + 2005 ≤ 2007
    · exact .inl ⟨by rw [hka, if_pos (by unfold okP; omega)], h⟩
    · exact .inr ⟨by rw [hka, if_neg (by unfold okP; omega)], h⟩
  have EN := Lib.hid en
  have ET := Lib.hid et
  have EA := Lib.hid ea
  clear hkn hkt hka en et ea hn0 ht0 ha0 hs
  obtain ⟨v3, hv3⟩ : ∃ v3, v3 = errV A 3 := ⟨_, rfl⟩
  obtain ⟨v1, hv1⟩ : ∃ v1, v1 = errV A 1 := ⟨_, rfl⟩
  obtain ⟨v5, hv5⟩ : ∃ v5, v5 = errV A 5 := ⟨_, rfl⟩
  obtain ⟨un, hun⟩ : ∃ u, u = errV A kn := ⟨_, rfl⟩
  obtain ⟨ut, hut⟩ : ∃ u, u = errV A kt := ⟨_, rfl⟩
  obtain ⟨ua, hua⟩ : ∃ u, u = errV A ka := ⟨_, rfl⟩
  rw [← hun] at HE
  rw [← hut] at HF
  rw [← hua] at HG
  rw [← hv3] at HH HI
  rw [← hv1] at HJ
  rw [← hv5] at HK
  have HS3 := Lib.hid (fun w k => HS.out w k 3 (by decide) 103)
  have HS1 := Lib.hid (fun w k => HS.out w k 1 (by decide) 101)
  have HS5 := Lib.hid (fun w k => HS.out w k 5 (by decide) 105)
  rw [← hv3, show decide (codeOf 3 = 103) = true from rfl] at HS3
  rw [← hv1, show decide (codeOf 1 = 101) = true from rfl] at HS1
  rw [← hv5, show decide (codeOf 5 = 105) = true from rfl] at HS5
  simp only [barV, ackV, pollV, adZ] at HE HF HG HH HI HJ HK
  have HUN := Lib.hid hun
  have HUT := Lib.hid hut
  have HUA := Lib.hid hua
  clear HS hv3 hv1 hv5 hun hut hua
  go_enter Tryd.func5, Tryd.ntmps5
  go_wp2_with fail
  refine (first_any W).mono ?_
  rintro e w1 ⟨rfl, hg⟩
  have HW := Lib.hid hg
  clear hg
  go_wp2_with fail
  refine (HN.out _).mono ?_
  rintro e w' ⟨rfl, rfl⟩
  go_wp2_with fail
  refine (HT.out _).mono ?_
  rintro e w' ⟨rfl, rfl⟩
  go_wp2_with fail
  refine (HA.out _).mono ?_
  rintro e w' ⟨rfl, rfl⟩
  go_wp2_with fail
  refine (HE.out _ HW.out).mono ?_
  rintro e w2 ⟨x2, rfl, hg⟩
  have HW := Lib.hid (HW.out.trans hg)
  clear hg HE HN HT HA
  go_wp2_with fail
  refine (HF.out _ HW.out).mono ?_
  rintro e w3 ⟨x3, rfl, hg⟩
  have HW := Lib.hid (HW.out.trans hg)
  clear hg HF
  go_wp2_with fail
  refine (HG.out _ HW.out).mono ?_
  rintro e w4 ⟨x4, rfl, hg⟩
  have HW := Lib.hid (HW.out.trans hg)
  clear hg HG
  go_wp2_with fail
  refine (HH.out _ HW.out).mono ?_
  rintro e w5 ⟨x5, rfl, hg⟩
  have HW := Lib.hid (HW.out.trans hg)
  clear hg HH
  go_wp2_with fail
  refine (HI.out _ HW.out).mono ?_
  rintro e w6 ⟨x6, rfl, hg⟩
  have HW := Lib.hid (HW.out.trans hg)
  clear hg HI
  go_wp2_with fail
  refine (HJ.out _ HW.out).mono ?_
  rintro e w7 ⟨rfl, hg⟩
  have HW := Lib.hid (HW.out.trans hg)
  clear hg HJ
  go_wp2_with fail
  have hl := (lie_one (w7.alloc (.cells #[.int .u8 0, .int .u8 0, .int .u8 0, .int .u8 0, .int .u8 0, .int .u8 0, .int .u8 0, .int .u8 0, .int .u8 0, .int .u8 0, .int .u8 0, .int .u8 0, .int .i64 0, .int .i64 0, .int .u64 0] 28)) _ 132 (w7.heap.size + 1) (by simp) (Gro.refl _ _)).lie
  refine (HK.out _ ((HW.out.alloc _).alloc _) _ (by decide) hl).mono ?_
  rintro e w8 ⟨rfl, hg⟩
  have HW := Lib.hid (((HW.out.alloc _).alloc _).trans hg)
  clear hg HK hl
  have HW := Lib.hid (HW.out.alloc (.cells #[.int .i64 0, .int .u8 0, .int .u8 0, .int .u8 0, .int .u8 0, .int .u8 0, .int .u8 0, .int .u8 0, .int .u8 0, .int .u8 0, .int .u8 0, .int .u8 0, .int .u8 0] 30))
  have ht : True := trivial
  rcases EN.out with ⟨hk, hn⟩ | ⟨hk, hn⟩
  all_goals
    rw [hk] at HUN
    obtain rfl := HUN.out
    rcases ET.out with ⟨hk2, ht⟩ | ⟨hk2, ht⟩
  all_goals
    rw [hk2] at HUT
    obtain rfl := HUT.out
    rcases EA.out with ⟨hk3, ha⟩ | ⟨hk3, ha⟩
  all_goals
    rw [hk3] at HUA
    obtain rfl := HUA.out
    clear HUN HUT HUA EN ET EA hk hk2 hk3
    simp only [errV]
    go_wp2_with fail
    refine (HS3.out _ HW.out).mono ?_
    rintro e w9 ⟨rfl, hg⟩
    have HW := Lib.hid (HW.out.trans hg)
    clear hg
    go_wp2_with fail
    refine (HS3.out _ HW.out).mono ?_
    rintro e w10 ⟨rfl, hg⟩
    have HW := Lib.hid (HW.out.trans hg)
    clear hg
    go_wp2_with fail
    refine (HS1.out _ HW.out).mono ?_
    rintro e w11 ⟨rfl, hg⟩
    have HW := Lib.hid (HW.out.trans hg)
    clear hg
    go_wp2_with fail
    refine (HS5.out _ HW.out).mono ?_
    rintro e w12 ⟨rfl, hg⟩
    have HW := Lib.hid (HW.out.trans hg)
    clear hg
    go_wp2_with fail
    go_ret
    exact ⟨ret_bool (by first | rfl | (simp; omega)), (Far.refl _ _).gro HW.out (Nat.le_refl _) (fun _ e => by cases e)⟩
end Go.Proofs.YtadcpoglkmklhaaDoor
