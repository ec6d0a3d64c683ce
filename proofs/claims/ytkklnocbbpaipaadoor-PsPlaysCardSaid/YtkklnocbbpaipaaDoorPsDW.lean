/-
  THE DOCUMENT's STATIONS WALKED: there, Asleep, Polled, May, Doze, Poll, Trigger, Sent, Close, Del, Add of muezzinref15.Power. Conditions: the block is whole ('DPow').
-/
import Derived.Test.YtkklnocbbpaipaaDoorPsD
import Derived.Test.YtkklnocbbpaipaaDoorRow
import Derived.StillTailTactics
namespace Go.Proofs.YtkklnocbbpaipaaDoor
open Go.RowKit

theorem DPow.at {b : Nat} {w : World} {P : Nat → One} (h : DPow b w P) (j : Nat) (hj : j < 16) (a : Int) (ha : a = j + 1) : Ten w b (a.toNat * 10) (P j) := by
  have := h.ten j hj
  rwa [show 10 * (j + 1) = a.toNat * 10 by omega] at this
theorem daid_any (a : Int) (w : World) : Calls Tryd.prog 35 #[.int .i64 a] w fun e w' => e = .returned (.bool (decide (1 ≤ a ∧ a ≤ 16))) ∧ w = w' := by
  by_cases h1 : 1 ≤ a
  · by_cases h2 : a ≤ 16
    · rw [decide_eq_true ⟨h1, h2⟩]
      go_enter Tryd.func35, Tryd.ntmps35
      go_wp2_with fail
      go_ret
      exact ⟨rfl, rfl⟩
    · rw [decide_eq_false (fun h => h2 h.2)]
      have n2 : 16 < a := by omega
      go_enter Tryd.func35, Tryd.ntmps35
      go_wp2_with fail
      go_ret
      exact ⟨rfl, rfl⟩
  · rw [decide_eq_false (fun h => h1 h.1)]
    have n1 : a < 1 := by omega
    go_enter Tryd.func35, Tryd.ntmps35
    go_wp2_with fail
    go_ret
    exact ⟨rfl, rfl⟩
theorem dcat_any (a : Int) (w : World) : Calls Tryd.prog 37 #[.int .i64 a] w fun e w' => e = .returned (.bool (decide (0 ≤ a ∧ a < 4))) ∧ w = w' := by
  by_cases h1 : 0 ≤ a
  · by_cases h2 : a < 4
    · rw [decide_eq_true ⟨h1, h2⟩]
      go_enter Tryd.func37, Tryd.ntmps37
      go_wp2_with fail
      go_ret
      exact ⟨rfl, rfl⟩
    · rw [decide_eq_false (fun h => h2 h.2)]
      have n2 : 4 ≤ a := by omega
      have hd : decide (a < 4) = false := by simp; omega
      go_enter Tryd.func37, Tryd.ntmps37
      go_wp2_with fail
      go_ret
      exact ⟨rfl, rfl⟩
  · rw [decide_eq_false (fun h => h1 h.1)]
    have n1 : a < 0 := by omega
    go_enter Tryd.func37, Tryd.ntmps37
    go_wp2_with fail
    go_ret
    exact ⟨rfl, rfl⟩
theorem dcat_in (a : Int) (w : World) (h1 : 0 ≤ a) (h2 : a < 4) : Calls Tryd.prog 37 #[.int .i64 a] w fun e w' => e = .returned (.bool true) ∧ w = w' := by
  have := dcat_any a w
  rwa [decide_eq_true ⟨h1, h2⟩] at this
theorem dcat_out (a : Int) (w : World) (h : a < 0 ∨ 4 ≤ a) : Calls Tryd.prog 37 #[.int .i64 a] w fun e w' => e = .returned (.bool false) ∧ w = w' := by
  have := dcat_any a w
  rwa [decide_eq_false (by omega)] at this
theorem dthere_at (b : Nat) (a : Int) (j : Nat) (t : Bool) (w : World) (P : Nat → One) (h : DPow b w P) (hj : j < 16) (ha : a = j + 1) (ht : (P j).th = t) : Calls Tryd.prog 36 #[.pointer (some ⟨b, 0, none⟩), .int .i64 a] w fun e w' => e = .returned (.bool t) ∧ w = w' := by
  have h1 : 1 ≤ a := by omega
  have h2 : a ≤ 16 := by omega
  have h3 : a < 17 := by omega
  have h4 : 0 ≤ a := by omega
  have HA := Lib.hid (daid_any a w)
  rw [decide_eq_true ⟨h1, h2⟩] at HA
  have hc := (h.at j hj a ha).c0
  rw [ht] at hc
  clear h ha ht hj
  go_enter Tryd.func36, Tryd.ntmps36
  go_wp2_with fail
  refine HA.out.mono ?_
  rintro e w' ⟨rfl, rfl⟩
  go_wp2_with fail
  go_ret
  exact ⟨rfl, rfl⟩
theorem dthere_nil (b : Nat) (a : Int) (w : World) (P : Nat → One) (h : DPow b w P) (hg : Gone P a) : Calls Tryd.prog 36 #[.pointer (some ⟨b, 0, none⟩), .int .i64 a] w fun e w' => e = .returned (.bool false) ∧ w = w' := by
  rcases hg with hg | ⟨j, hj, ha, ht⟩
  case inr => exact dthere_at b a j false w P h hj ha ht
  have HA := Lib.hid (daid_any a w)
  rw [decide_eq_false (by omega)] at HA
  clear h hg
  go_enter Tryd.func36, Tryd.ntmps36
  go_wp2_with fail
  refine HA.out.mono ?_
  rintro e w' ⟨rfl, rfl⟩
  go_wp2_with fail
  go_ret
  exact ⟨rfl, rfl⟩
theorem dasleep_there (b : Nat) (a : Int) (j : Nat) (w : World) (P : Nat → One) (h : DPow b w P) (hj : j < 16) (ha : a = j + 1) (ht : (P j).th = true) :
    Calls Tryd.prog 28 #[.pointer (some ⟨b, 0, none⟩), .int .i64 a] w fun e w' => e = .returned (.bool (P j).sl) ∧ w = w' := by
  have h1 : 1 ≤ a := by omega
  have h2 : a ≤ 16 := by omega
  have h3 : a < 17 := by omega
  have h4 : 0 ≤ a := by omega
  have hof := Lib.hid (dthere_at b a j true w P h hj ha ht)
  obtain ⟨c0, c1, c2, c3, c4f, c8, c9, fr⟩ := h.at j hj a ha
  clear h ha ht hj
  go_enter Tryd.func28, Tryd.ntmps28
  go_wp2_with fail
  refine hof.out.mono ?_
  rintro e w' ⟨rfl, rfl⟩
  go_wp2_with fail
  go_ret
  exact ⟨rfl, rfl⟩
theorem dasleep_nil (b : Nat) (a : Int) (w : World) (P : Nat → One) (h : DPow b w P) (hg : Gone P a) :
    Calls Tryd.prog 28 #[.pointer (some ⟨b, 0, none⟩), .int .i64 a] w fun e w' => e = .returned (.bool false) ∧ w = w' := by
  have hof := Lib.hid (dthere_nil b a w P h hg)
  clear h hg
  go_enter Tryd.func28, Tryd.ntmps28
  go_wp2_with fail
  refine hof.out.mono ?_
  rintro e w' ⟨rfl, rfl⟩
  go_wp2_with fail
  go_ret
  exact ⟨rfl, rfl⟩
theorem dpolled_there (b : Nat) (a : Int) (j : Nat) (w : World) (P : Nat → One) (h : DPow b w P) (hj : j < 16) (ha : a = j + 1) (ht : (P j).th = true) :
    Calls Tryd.prog 29 #[.pointer (some ⟨b, 0, none⟩), .int .i64 a] w fun e w' => e = .returned (.bool (P j).po) ∧ w = w' := by
  have h1 : 1 ≤ a := by omega
  have h2 : a ≤ 16 := by omega
  have h3 : a < 17 := by omega
  have h4 : 0 ≤ a := by omega
  have hof := Lib.hid (dthere_at b a j true w P h hj ha ht)
  obtain ⟨c0, c1, c2, c3, c4f, c8, c9, fr⟩ := h.at j hj a ha
  clear h ha ht hj
  go_enter Tryd.func29, Tryd.ntmps29
  go_wp2_with fail
  refine hof.out.mono ?_
  rintro e w' ⟨rfl, rfl⟩
  go_wp2_with fail
  go_ret
  exact ⟨rfl, rfl⟩
theorem dpolled_nil (b : Nat) (a : Int) (w : World) (P : Nat → One) (h : DPow b w P) (hg : Gone P a) :
    Calls Tryd.prog 29 #[.pointer (some ⟨b, 0, none⟩), .int .i64 a] w fun e w' => e = .returned (.bool false) ∧ w = w' := by
  have hof := Lib.hid (dthere_nil b a w P h hg)
  clear h hg
  go_enter Tryd.func29, Tryd.ntmps29
  go_wp2_with fail
  refine hof.out.mono ?_
  rintro e w' ⟨rfl, rfl⟩
  go_wp2_with fail
  go_ret
  exact ⟨rfl, rfl⟩
theorem ddoze_nil (b : Nat) (a : Int) (on : Bool) (w : World) (P : Nat → One) (h : DPow b w P) (hg : Gone P a) :
    Calls Tryd.prog 23 #[.pointer (some ⟨b, 0, none⟩), .int .i64 a, .bool on] w fun e w' => e = .returned (.int .i64 107) ∧ w = w' := by
  have hof := Lib.hid (dthere_nil b a w P h hg)
  clear h hg
  go_enter Tryd.func23, Tryd.ntmps23
  go_wp2_with fail
  refine hof.out.mono ?_
  rintro e w' ⟨rfl, rfl⟩
  go_wp2_with fail
  go_ret
  exact ⟨rfl, rfl⟩
def ddozeO (o : One) (on : Bool) : One := if o.sl = on then o else { o with sl := on, po := false, op := false }
theorem ddoze_there (b : Nat) (a : Int) (on : Bool) (j : Nat) (w : World) (P : Nat → One) (h : DPow b w P) (hj : j < 16) (ha : a = j + 1) (ht : (P j).th = true) :
    Calls Tryd.prog 23 #[.pointer (some ⟨b, 0, none⟩), .int .i64 a, .bool on] w fun e w' => e = .returned (.int .i64 0) ∧ Gro (some b) w w' ∧ DPow b w' (updP P j (ddozeO (P j) on)) := by
  have h1 : 1 ≤ a := by omega
  have h2 : a ≤ 16 := by omega
  have h3 : a < 17 := by omega
  have h4 : 0 ≤ a := by omega
  have hof := Lib.hid (dthere_at b a j true w P h hj ha ht)
  obtain ⟨c0, c1, c2, c3, c4f, c8, c9, fr⟩ := h.at j hj a ha
  by_cases hs : (P j).sl = on
  · have hP : Hid (DPow b w (updP P j (ddozeO (P j) on))) := by
      unfold Hid ddozeO; rw [if_pos hs, updP_self]; exact h
    rw [hs] at c1
    clear h ha ht hj hs
    go_enter Tryd.func23, Tryd.ntmps23
    go_wp2_with fail
    refine hof.out.mono ?_
    rintro e w' ⟨rfl, rfl⟩
    go_wp2_with fail
    go_ret
    exact ⟨rfl, Gro.refl _ _, hP.out⟩
  · have hP : Hid (DPow b (((w.setCell ⟨b, a.toNat * 10 + 1, none⟩ (.bool on)).setCell ⟨b, a.toNat * 10 + 2, none⟩ (.bool false)).setCell ⟨b, a.toNat * 10 + 3, none⟩ (.bool false)) (updP P j (ddozeO (P j) on))) := by
      unfold Hid ddozeO
      rw [if_neg hs, show a.toNat * 10 = 10 * (j + 1) by omega]
      have := ((h.s1 j hj on).s2 j hj false).s3 j hj false
      simpa only [updP_updP, updP_same] using this
    have hne : ((P j).sl != on) = true := by simpa using hs
    have hne2 : ((P j).sl == on) = false := by simpa using hs
    clear h ha ht hj hs
    generalize (P j).sl = sl at *
    go_enter Tryd.func23, Tryd.ntmps23
    go_wp2_with fail
    refine hof.out.mono ?_
    rintro e w' ⟨rfl, rfl⟩
    go_wp2_with fail
    go_ret
    exact ⟨rfl, (((Gro.refl _ _).setCell _ _).setCell _ _).setCell _ _, hP.out⟩
theorem dpoll_nil (b : Nat) (a : Int) (w : World) (P : Nat → One) (h : DPow b w P) (hg : Gone P a) :
    Calls Tryd.prog 24 #[.pointer (some ⟨b, 0, none⟩), .int .i64 a] w fun e w' => e = .returned (.int .i64 107) ∧ w = w' := by
  have hof := Lib.hid (dthere_nil b a w P h hg)
  clear h hg
  go_enter Tryd.func24, Tryd.ntmps24
  go_wp2_with fail
  refine hof.out.mono ?_
  rintro e w' ⟨rfl, rfl⟩
  go_wp2_with fail
  go_ret
  exact ⟨rfl, rfl⟩
theorem dpoll_there (b : Nat) (a : Int) (j : Nat) (w : World) (P : Nat → One) (h : DPow b w P) (hj : j < 16) (ha : a = j + 1) (ht : (P j).th = true) (hs : (P j).sl = true) (ho : (P j).op = false) :
    Calls Tryd.prog 24 #[.pointer (some ⟨b, 0, none⟩), .int .i64 a] w fun e w' => e = .returned (.int .i64 0) ∧ Gro (some b) w w' ∧ DPow b w' (updP P j { P j with po := true }) := by
  have h1 : 1 ≤ a := by omega
  have h2 : a ≤ 16 := by omega
  have h3 : a < 17 := by omega
  have h4 : 0 ≤ a := by omega
  have hof := Lib.hid (dthere_at b a j true w P h hj ha ht)
  obtain ⟨c0, c1, c2, c3, c4f, c8, c9, fr⟩ := h.at j hj a ha
  have hP := Lib.hid (h.s2 j hj true)
  rw [show 10 * (j + 1) = a.toNat * 10 by omega] at hP
  rw [hs] at c1
  rw [ho] at c3
  clear h ha ht hj hs ho
  go_enter Tryd.func24, Tryd.ntmps24
  go_wp2_with fail
  refine hof.out.mono ?_
  rintro e w' ⟨rfl, rfl⟩
  go_wp2_with fail
  go_ret
  exact ⟨rfl, (Gro.refl _ _).setCell _ _, hP.out⟩
theorem dpoll_state (b : Nat) (a : Int) (j : Nat) (w : World) (P : Nat → One) (h : DPow b w P) (hj : j < 16) (ha : a = j + 1) (ht : (P j).th = true) (hs : (P j).sl = false ∨ (P j).op = true) :
    Calls Tryd.prog 24 #[.pointer (some ⟨b, 0, none⟩), .int .i64 a] w fun e w' => e = .returned (.int .i64 110) ∧ w = w' := by
  have h1 : 1 ≤ a := by omega
  have h2 : a ≤ 16 := by omega
  have h3 : a < 17 := by omega
  have h4 : 0 ≤ a := by omega
  have hof := Lib.hid (dthere_at b a j true w P h hj ha ht)
  obtain ⟨c0, c1, c2, c3, c4f, c8, c9, fr⟩ := h.at j hj a ha
  clear h ha ht hj
  generalize (P j).sl = sl at *
  generalize (P j).op = op at *
  cases sl
  · clear hs
    go_enter Tryd.func24, Tryd.ntmps24
    go_wp2_with fail
    refine hof.out.mono ?_
    rintro e w' ⟨rfl, rfl⟩
    go_wp2_with fail
    go_ret
    exact ⟨rfl, rfl⟩
  · obtain rfl : op = true := by simpa using hs
    clear hs
    go_enter Tryd.func24, Tryd.ntmps24
    go_wp2_with fail
    refine hof.out.mono ?_
    rintro e w' ⟨rfl, rfl⟩
    go_wp2_with fail
    go_ret
    exact ⟨rfl, rfl⟩
theorem dclose_nil (b : Nat) (a : Int) (w : World) (P : Nat → One) (h : DPow b w P) (hg : Gone P a) :
    Calls Tryd.prog 27 #[.pointer (some ⟨b, 0, none⟩), .int .i64 a] w fun e w' => e = .returned (.int .i64 107) ∧ w = w' := by
  have hof := Lib.hid (dthere_nil b a w P h hg)
  clear h hg
  go_enter Tryd.func27, Tryd.ntmps27
  go_wp2_with fail
  refine hof.out.mono ?_
  rintro e w' ⟨rfl, rfl⟩
  go_wp2_with fail
  go_ret
  exact ⟨rfl, rfl⟩
theorem dclose_ok (b : Nat) (a : Int) (j : Nat) (w : World) (P : Nat → One) (h : DPow b w P) (hj : j < 16) (ha : a = j + 1) (ht : (P j).th = true) (ho : (P j).op = true) :
    Calls Tryd.prog 27 #[.pointer (some ⟨b, 0, none⟩), .int .i64 a] w fun e w' => e = .returned (.int .i64 0) ∧ Gro (some b) w w' ∧ DPow b w' (updP P j { P j with op := false }) := by
  have h1 : 1 ≤ a := by omega
  have h2 : a ≤ 16 := by omega
  have h3 : a < 17 := by omega
  have h4 : 0 ≤ a := by omega
  have hof := Lib.hid (dthere_at b a j true w P h hj ha ht)
  obtain ⟨c0, c1, c2, c3, c4f, c8, c9, fr⟩ := h.at j hj a ha
  have hP := Lib.hid (h.s3 j hj false)
  rw [show 10 * (j + 1) = a.toNat * 10 by omega] at hP
  rw [ho] at c3
  clear h ha ht hj ho
  go_enter Tryd.func27, Tryd.ntmps27
  go_wp2_with fail
  refine hof.out.mono ?_
  rintro e w' ⟨rfl, rfl⟩
  go_wp2_with fail
  go_ret
  exact ⟨rfl, (Gro.refl _ _).setCell _ _, hP.out⟩
theorem dclose_no (b : Nat) (a : Int) (j : Nat) (w : World) (P : Nat → One) (h : DPow b w P) (hj : j < 16) (ha : a = j + 1) (ht : (P j).th = true) (ho : (P j).op = false) :
    Calls Tryd.prog 27 #[.pointer (some ⟨b, 0, none⟩), .int .i64 a] w fun e w' => e = .returned (.int .i64 110) ∧ w = w' := by
  have h1 : 1 ≤ a := by omega
  have h2 : a ≤ 16 := by omega
  have h3 : a < 17 := by omega
  have h4 : 0 ≤ a := by omega
  have hof := Lib.hid (dthere_at b a j true w P h hj ha ht)
  obtain ⟨c0, c1, c2, c3, c4f, c8, c9, fr⟩ := h.at j hj a ha
  rw [ho] at c3
  clear h ha ht hj ho
  go_enter Tryd.func27, Tryd.ntmps27
  go_wp2_with fail
  refine hof.out.mono ?_
  rintro e w' ⟨rfl, rfl⟩
  go_wp2_with fail
  go_ret
  exact ⟨rfl, rfl⟩
theorem dtrigger_nil (b : Nat) (a : Int) (ac : Int) (w : World) (P : Nat → One) (h : DPow b w P) (hg : Gone P a) :
    Calls Tryd.prog 25 #[.pointer (some ⟨b, 0, none⟩), .int .i64 a, .int .i64 ac] w fun e w' => e = .returned (.int .i64 107) ∧ w = w' := by
  have hof := Lib.hid (dthere_nil b a w P h hg)
  clear h hg
  go_enter Tryd.func25, Tryd.ntmps25
  go_wp2_with fail
  refine hof.out.mono ?_
  rintro e w' ⟨rfl, rfl⟩
  go_wp2_with fail
  go_ret
  exact ⟨rfl, rfl⟩
theorem dtrigger_far (b : Nat) (a ac : Int) (j : Nat) (w : World) (P : Nat → One) (h : DPow b w P) (hj : j < 16) (ha : a = j + 1) (ht : (P j).th = true) (h0 : ac < 0 ∨ 4 ≤ ac) :
    Calls Tryd.prog 25 #[.pointer (some ⟨b, 0, none⟩), .int .i64 a, .int .i64 ac] w fun e w' => e = .returned (.int .i64 103) ∧ w = w' := by
  have hof := Lib.hid (dthere_at b a j true w P h hj ha ht)
  have hfa := Lib.hid (dcat_out ac w h0)
  clear h ha ht hj h0
  go_enter Tryd.func25, Tryd.ntmps25
  go_wp2_with fail
  refine hof.out.mono ?_
  rintro e w' ⟨rfl, rfl⟩
  go_wp2_with fail
  refine hfa.out.mono ?_
  rintro e w' ⟨rfl, rfl⟩
  go_wp2_with fail
  go_ret
  exact ⟨rfl, rfl⟩
theorem dtrigger_no (b : Nat) (a ac : Int) (j : Nat) (w : World) (P : Nat → One) (h : DPow b w P) (hj : j < 16) (ha : a = j + 1) (ht : (P j).th = true) (h0 : 0 ≤ ac) (h4' : ac < 4) (hok : trigOk (P j) ac = false) :
    Calls Tryd.prog 25 #[.pointer (some ⟨b, 0, none⟩), .int .i64 a, .int .i64 ac] w fun e w' => e = .returned (.int .i64 110) ∧ w = w' := by
  have h1 : 1 ≤ a := by omega
  have h2 : a ≤ 16 := by omega
  have h3 : a < 17 := by omega
  have h4 : 0 ≤ a := by omega
  have hof := Lib.hid (dthere_at b a j true w P h hj ha ht)
  obtain ⟨c0, c1, c2, c3, c4f, c8, c9, fr⟩ := h.at j hj a ha
  have c4 := c4f ac h0 h4'
  clear c4f
  have hfa := Lib.hid (dcat_in ac w h0 h4')
  unfold trigOk at hok
  clear h ha ht hj
  generalize (P j).sl = sl at *
  generalize (P j).po = po at *
  generalize (P j).op = op at *
  generalize uOf (P j) ac = u at *
  cases sl <;> cases po <;> cases op <;> cases u
  all_goals try (exfalso; simp at hok; done)
  all_goals
    clear hok
    go_enter Tryd.func25, Tryd.ntmps25
    go_wp2_with fail
    refine hof.out.mono ?_
    rintro e w' ⟨rfl, rfl⟩
    go_wp2_with fail
    refine hfa.out.mono ?_
    rintro e w' ⟨rfl, rfl⟩
    go_wp2_with fail
    go_ret
    exact ⟨rfl, rfl⟩
theorem dtrigger_ok (b : Nat) (a ac : Int) (j : Nat) (w : World) (P : Nat → One) (h : DPow b w P) (hj : j < 16) (ha : a = j + 1) (ht : (P j).th = true) (h0 : 0 ≤ ac) (h4' : ac < 4) (hok : trigOk (P j) ac = true) :
    Calls Tryd.prog 25 #[.pointer (some ⟨b, 0, none⟩), .int .i64 a, .int .i64 ac] w fun e w' => e = .returned (.int .i64 0) ∧ Gro (some b) w w' ∧ DPow b w' (updP P j { P j with op := true, left := (P j).most }) := by
  have h1 : 1 ≤ a := by omega
  have h2 : a ≤ 16 := by omega
  have h3 : a < 17 := by omega
  have h4 : 0 ≤ a := by omega
  have hof := Lib.hid (dthere_at b a j true w P h hj ha ht)
  obtain ⟨c0, c1, c2, c3, c4f, c8, c9, fr⟩ := h.at j hj a ha
  have c4 := c4f ac h0 h4'
  clear c4f
  have hfa := Lib.hid (dcat_in ac w h0 h4')
  simp only [trigOk, Bool.and_eq_true, Bool.not_eq_true'] at hok
  obtain ⟨⟨⟨o1, o2⟩, o3⟩, o4⟩ := hok
  rw [o1] at c1
  rw [o2] at c2
  rw [o3] at c3
  rw [o4] at c4
  have hP : Hid (DPow b ((w.setCell ⟨b, a.toNat * 10 + 3, none⟩ (.bool true)).setCell ⟨b, a.toNat * 10 + 9, none⟩ (.int .i64 (P j).most)) (updP P j { P j with op := true, left := (P j).most })) := by
    have := (h.s3 j hj true).s9 j hj (P j).most
    unfold Hid
    rw [show a.toNat * 10 = 10 * (j + 1) by omega]
    simpa only [updP_updP, updP_same] using this
  clear h ha ht hj o1 o2 o3 o4
  generalize (P j).most = mo at *
  generalize (P j).left = le at *
  go_enter Tryd.func25, Tryd.ntmps25
  go_wp2_with fail
  refine hof.out.mono ?_
  rintro e w' ⟨rfl, rfl⟩
  go_wp2_with fail
  refine hfa.out.mono ?_
  rintro e w' ⟨rfl, rfl⟩
  go_wp2_with fail
  go_region
  all_goals (try go_wp2)
  all_goals go_ret
  all_goals exact ⟨rfl, (((Gro.refl _ _).setCell _ _).setCell _ _).drew, hP.out.drew⟩
theorem ddel_nil (b : Nat) (a : Int) (w : World) (P : Nat → One) (h : DPow b w P) (hg : Gone P a) :
    Calls Tryd.prog 22 #[.pointer (some ⟨b, 0, none⟩), .int .i64 a] w fun e w' => e = .returned (.tuple #[]) ∧ w = w' := by
  have hof := Lib.hid (dthere_nil b a w P h hg)
  clear h hg
  go_enter Tryd.func22, Tryd.ntmps22
  go_wp2_with fail
  refine hof.out.mono ?_
  rintro e w' ⟨rfl, rfl⟩
  go_wp2_with fail
  go_end0
  exact ⟨rfl, rfl⟩
theorem ddel_there (b : Nat) (a : Int) (j : Nat) (w : World) (P : Nat → One) (h : DPow b w P) (hj : j < 16) (ha : a = j + 1) (ht : (P j).th = true) :
    Calls Tryd.prog 22 #[.pointer (some ⟨b, 0, none⟩), .int .i64 a] w fun e w' => e = .returned (.tuple #[]) ∧ Gro (some b) w w' ∧ DPow b w' (updP P j One.zero) := by
  have h1 : 1 ≤ a := by omega
  have h2 : a ≤ 16 := by omega
  have h3 : a < 17 := by omega
  have h4 : 0 ≤ a := by omega
  have hof := Lib.hid (dthere_at b a j true w P h hj ha ht)
  have hP := Lib.hid (h.all j hj One.zero)
  have c0 := h.cell j hj 0 (by decide)
  have c1 := h.cell j hj 1 (by decide)
  have c2 := h.cell j hj 2 (by decide)
  have c3 := h.cell j hj 3 (by decide)
  have c4 := h.cell j hj 4 (by decide)
  have c5 := h.cell j hj 5 (by decide)
  have c6 := h.cell j hj 6 (by decide)
  have c7 := h.cell j hj 7 (by decide)
  have c8 := h.cell j hj 8 (by decide)
  have c9 := h.cell j hj 9 (by decide)
  have fr := h.fr
  have e1 : 10 * (j + 1) = a.toNat * 10 := by omega
  rw [e1] at c0 c1 c2 c3 c4 c5 c6 c7 c8 c9 hP
  clear e1
  simp only [Nat.add_zero] at c0
  clear h ha ht hj
  go_enter Tryd.func22, Tryd.ntmps22
  go_wp2_with fail
  refine hof.out.mono ?_
  rintro e w' ⟨rfl, rfl⟩
  go_wp2_with fail
  go_end0
  exact ⟨rfl, ((((((((((Gro.refl _ _).setCell _ _).setCell _ _).setCell _ _).setCell _ _).setCell _ _).setCell _ _).setCell _ _).setCell _ _).setCell _ _).setCell _ _, hP.out⟩
end Go.Proofs.YtkklnocbbpaipaaDoor
