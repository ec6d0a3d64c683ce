/-
  THE WALKS OF package ps, THE LAST: Trigger, Close, Sent. Conditions: the block is whole ('Pow'), the sentinels lie ('Sent').
-/
import Derived.Test.YtkklnocbbpaipaaDoorPsWalks2
namespace Go.Proofs.YtkklnocbbpaipaaDoor
open Go.RowKit

def trigOk (o : One) (ac : Int) : Bool := o.sl && !o.po && !o.op && uOf o ac
theorem trigger_ok (b : Nat) (a ac : Int) (j : Nat) (w : World) (P : Nat → One) (h : Pow b w P) (hj : j < 16) (ha : a = j + 1) (ht : (P j).th = true) (h0 : 0 ≤ ac) (h4 : ac < 4) (hok : trigOk (P j) ac = true) :
    Calls Tryd.prog 17 #[.pointer (some ⟨b, 0, none⟩), .int .i64 a, .int .i64 ac] w fun e w' => e = .returned .nilIface ∧ Gro (some b) w w' ∧ Pow b w' (updP P j { P j with op := true, left := (P j).most }) := by
  have hof := Lib.hid (of_there b a j w P h hj ha ht)
  obtain ⟨_, c1, c2, c3, c4f, c8, c9, fr⟩ := h.ten j hj
  have c4 := c4f ac h0 h4
  clear c4f
  simp only [trigOk, Bool.and_eq_true, Bool.not_eq_true'] at hok
  obtain ⟨⟨⟨o1, o2⟩, o3⟩, o4⟩ := hok
  rw [o1] at c1
  rw [o2] at c2
  rw [o3] at c3
  rw [o4] at c4
  have hP : Hid (Pow b ((w.setCell ⟨b, 10 * j + 3, none⟩ (.bool true)).setCell ⟨b, 10 * j + 9, none⟩ (.int .i64 (P j).most)) (updP P j { P j with op := true, left := (P j).most })) := by
    have := (h.s3 j hj true).s9 j hj (P j).most
    unfold Hid
    simpa only [updP_updP, updP_same] using this
  clear h ha ht hj o1 o2 o3 o4
  generalize 10 * j = off at *
  generalize (P j).most = mo at *
  generalize (P j).left = le at *
  go_enter Tryd.func17, Tryd.ntmps17
  go_wp2_with fail
  refine hof.out.mono ?_
  rintro e w' ⟨rfl, rfl⟩
  go_wp2_with fail
  refine (fair_in ac w h0 h4).mono ?_
  rintro e w' ⟨rfl, rfl⟩
  go_wp2_with fail
  go_ret
  exact ⟨rfl, ((Gro.refl _ _).setCell _ _).setCell _ _, hP.out⟩
theorem trigger_no (b : Nat) (a ac : Int) (v : Value) (j : Nat) (w : World) (P : Nat → One) (h : Pow b w P) (hj : j < 16) (ha : a = j + 1) (ht : (P j).th = true) (h0 : 0 ≤ ac) (h4 : ac < 4) (hok : trigOk (P j) ac = false) (hv : w.cell? ⟨3, 0, none⟩ = some v) :
    Calls Tryd.prog 17 #[.pointer (some ⟨b, 0, none⟩), .int .i64 a, .int .i64 ac] w fun e w' => e = .returned v ∧ w = w' := by
  have hof := Lib.hid (of_there b a j w P h hj ha ht)
  obtain ⟨_, c1, c2, c3, c4f, _, _, _⟩ := h.ten j hj
  have c4 := c4f ac h0 h4
  clear c4f
  unfold trigOk at hok
  clear h ha ht hj
  generalize 10 * j = off at *
  generalize (P j).sl = sl at *
  generalize (P j).po = po at *
  generalize (P j).op = op at *
  generalize uOf (P j) ac = u at *
  cases sl <;> cases po <;> cases op <;> cases u
  all_goals try (exfalso; simp at hok; done)
  all_goals
    clear hok
    go_enter Tryd.func17, Tryd.ntmps17
    go_wp2_with fail
    refine hof.out.mono ?_
    rintro e w' ⟨rfl, rfl⟩
    go_wp2_with fail
    refine (fair_in ac w h0 h4).mono ?_
    rintro e w' ⟨rfl, rfl⟩
    go_wp2_with fail
    go_ret
    exact ⟨rfl, rfl⟩
theorem trigger_far (b : Nat) (a ac : Int) (v : Value) (j : Nat) (w : World) (P : Nat → One) (h : Pow b w P) (hj : j < 16) (ha : a = j + 1) (ht : (P j).th = true) (h0 : ac < 0 ∨ 4 ≤ ac) (hv : w.cell? ⟨0, 0, none⟩ = some v) :
    Calls Tryd.prog 17 #[.pointer (some ⟨b, 0, none⟩), .int .i64 a, .int .i64 ac] w fun e w' => e = .returned v ∧ w = w' := by
  have hof := Lib.hid (of_there b a j w P h hj ha ht)
  have hfa := Lib.hid (fair_out ac w h0)
  clear h ha ht hj h0
  go_enter Tryd.func17, Tryd.ntmps17
  go_wp2_with fail
  refine hof.out.mono ?_
  rintro e w' ⟨rfl, rfl⟩
  go_wp2_with fail
  refine hfa.out.mono ?_
  rintro e w' ⟨rfl, rfl⟩
  go_wp2_with fail
  go_ret
  exact ⟨rfl, rfl⟩
theorem trigger_nil (b : Nat) (a ac : Int) (v : Value) (w : World) (P : Nat → One) (h : Pow b w P) (hg : Gone P a) (hv : w.cell? ⟨2, 0, none⟩ = some v) :
    Calls Tryd.prog 17 #[.pointer (some ⟨b, 0, none⟩), .int .i64 a, .int .i64 ac] w fun e w' => e = .returned v ∧ w = w' := by
  have hof := Lib.hid (of_nil b a w P h hg)
  clear h hg
  go_enter Tryd.func17, Tryd.ntmps17
  go_wp2_with fail
  refine hof.out.mono ?_
  rintro e w' ⟨rfl, rfl⟩
  go_wp2_with fail
  go_ret
  exact ⟨rfl, rfl⟩
theorem poll_nil (b : Nat) (a : Int) (v : Value) (w : World) (P : Nat → One) (h : Pow b w P) (hg : Gone P a) (hv : w.cell? ⟨2, 0, none⟩ = some v) :
    Calls Tryd.prog 11 #[.pointer (some ⟨b, 0, none⟩), .int .i64 a] w fun e w' => e = .returned v ∧ w = w' := by
  have hof := Lib.hid (of_nil b a w P h hg)
  clear h hg
  go_enter Tryd.func11, Tryd.ntmps11
  go_wp2_with fail
  refine hof.out.mono ?_
  rintro e w' ⟨rfl, rfl⟩
  go_wp2_with fail
  go_ret
  exact ⟨rfl, rfl⟩
theorem doze_nil (b : Nat) (a : Int) (on : Bool) (v : Value) (w : World) (P : Nat → One) (h : Pow b w P) (hg : Gone P a) (hv : w.cell? ⟨2, 0, none⟩ = some v) :
    Calls Tryd.prog 10 #[.pointer (some ⟨b, 0, none⟩), .int .i64 a, .bool on] w fun e w' => e = .returned v ∧ w = w' := by
  have hof := Lib.hid (of_nil b a w P h hg)
  clear h hg
  go_enter Tryd.func10, Tryd.ntmps10
  go_wp2_with fail
  refine hof.out.mono ?_
  rintro e w' ⟨rfl, rfl⟩
  go_wp2_with fail
  go_ret
  exact ⟨rfl, rfl⟩

theorem close_ok (b : Nat) (a : Int) (j : Nat) (w : World) (P : Nat → One) (h : Pow b w P) (hj : j < 16) (ha : a = j + 1) (ht : (P j).th = true) (ho : (P j).op = true) :
    Calls Tryd.prog 19 #[.pointer (some ⟨b, 0, none⟩), .int .i64 a] w fun e w' => e = .returned .nilIface ∧ Gro (some b) w w' ∧ Pow b w' (updP P j { P j with op := false, left := 0 }) := by
  have hof := Lib.hid (of_there b a j w P h hj ha ht)
  obtain ⟨_, _, _, c3, _, _, c9, fr⟩ := h.ten j hj
  rw [ho] at c3
  have hP : Hid (Pow b ((w.setCell ⟨b, 10 * j + 3, none⟩ (.bool false)).setCell ⟨b, 10 * j + 9, none⟩ (.int .i64 0)) (updP P j { P j with op := false, left := 0 })) := by
    have := (h.s3 j hj false).s9 j hj 0
    unfold Hid
    simpa only [updP_updP, updP_same] using this
  clear h ha ht hj ho
  generalize 10 * j = off at *
  go_enter Tryd.func19, Tryd.ntmps19
  go_wp2_with fail
  refine hof.out.mono ?_
  rintro e w' ⟨rfl, rfl⟩
  go_wp2_with fail
  go_ret
  exact ⟨rfl, ((Gro.refl _ _).setCell _ _).setCell _ _, hP.out⟩
theorem close_no (b : Nat) (a : Int) (v : Value) (j : Nat) (w : World) (P : Nat → One) (h : Pow b w P) (hj : j < 16) (ha : a = j + 1) (ht : (P j).th = true) (ho : (P j).op = false) (hv : w.cell? ⟨3, 0, none⟩ = some v) :
    Calls Tryd.prog 19 #[.pointer (some ⟨b, 0, none⟩), .int .i64 a] w fun e w' => e = .returned v ∧ w = w' := by
  have hof := Lib.hid (of_there b a j w P h hj ha ht)
  obtain ⟨_, _, _, c3, _, _, _, _⟩ := h.ten j hj
  rw [ho] at c3
  clear h ha ht hj ho
  generalize 10 * j = off at *
  go_enter Tryd.func19, Tryd.ntmps19
  go_wp2_with fail
  refine hof.out.mono ?_
  rintro e w' ⟨rfl, rfl⟩
  go_wp2_with fail
  go_ret
  exact ⟨rfl, rfl⟩
theorem close_nil (b : Nat) (a : Int) (v : Value) (w : World) (P : Nat → One) (h : Pow b w P) (hg : Gone P a) (hv : w.cell? ⟨2, 0, none⟩ = some v) :
    Calls Tryd.prog 19 #[.pointer (some ⟨b, 0, none⟩), .int .i64 a] w fun e w' => e = .returned v ∧ w = w' := by
  have hof := Lib.hid (of_nil b a w P h hg)
  clear h hg
  go_enter Tryd.func19, Tryd.ntmps19
  go_wp2_with fail
  refine hof.out.mono ?_
  rintro e w' ⟨rfl, rfl⟩
  go_wp2_with fail
  go_ret
  exact ⟨rfl, rfl⟩

/-! ### Sent. -/
theorem sent_no (b : Nat) (a ac : Int) (more : Bool) (v : Value) (j : Nat) (w : World) (P : Nat → One) (h : Pow b w P) (hj : j < 16) (ha : a = j + 1) (ht : (P j).th = true) (h0 : 0 ≤ ac) (h4 : ac < 4) (hm : mayO (P j) ac = false) (hv : w.cell? ⟨3, 0, none⟩ = some v) :
    Calls Tryd.prog 16 #[.pointer (some ⟨b, 0, none⟩), .int .i64 a, .int .i64 ac, .bool more] w fun e w' => e = .returned (.tuple #[.bool false, v]) ∧ Gro none w w' := by
  have hof := Lib.hid (of_there b a j w P h hj ha ht)
  have hma := Lib.hid (may_there b a ac j w P h hj ha ht h0 h4)
  rw [hm] at hma
  clear h ha ht hj hm
  go_enter Tryd.func16, Tryd.ntmps16
  go_wp2_with fail
  refine hof.out.mono ?_
  rintro e w' ⟨rfl, rfl⟩
  go_wp2_with fail
  refine (fair_in ac w h0 h4).mono ?_
  rintro e w' ⟨rfl, rfl⟩
  go_wp2_with fail
  refine hma.out.mono ?_
  rintro e w' ⟨rfl, rfl⟩
  go_wp2_with fail
  go_region
  all_goals (try go_wp2)
  all_goals go_ret2
  all_goals exact ⟨rfl, (Gro.refl _ _).drew⟩
theorem sent_polled (b : Nat) (a ac : Int) (more : Bool) (j : Nat) (w : World) (P : Nat → One) (h : Pow b w P) (hj : j < 16) (ha : a = j + 1) (ht : (P j).th = true) (h0 : 0 ≤ ac) (h4 : ac < 4) (hs : (P j).sl = true) (hp : (P j).po = true) :
    Calls Tryd.prog 16 #[.pointer (some ⟨b, 0, none⟩), .int .i64 a, .int .i64 ac, .bool more] w fun e w' => e = .returned (.tuple #[.bool false, .nilIface]) ∧ Gro (some b) w w' ∧ Pow b w' (updP P j { P j with po := false }) := by
  have hof := Lib.hid (of_there b a j w P h hj ha ht)
  have hma := Lib.hid (may_there b a ac j w P h hj ha ht h0 h4)
  rw [show mayO (P j) ac = true by simp [mayO, hp]] at hma
  obtain ⟨_, c1, c2, _, _, _, _, fr⟩ := h.ten j hj
  rw [hs] at c1
  rw [hp] at c2
  have hP := Lib.hid (h.s2 j hj false)
  clear h ha ht hj hs hp
  generalize 10 * j = off at *
  go_enter Tryd.func16, Tryd.ntmps16
  go_wp2_with fail
  refine hof.out.mono ?_
  rintro e w' ⟨rfl, rfl⟩
  go_wp2_with fail
  refine (fair_in ac w h0 h4).mono ?_
  rintro e w' ⟨rfl, rfl⟩
  go_wp2_with fail
  refine hma.out.mono ?_
  rintro e w' ⟨rfl, rfl⟩
  go_wp2_with fail
  go_ret2
  exact ⟨rfl, (Gro.refl _ _).setCell _ _, hP.out⟩
theorem sent_awake (b : Nat) (a ac : Int) (more : Bool) (j : Nat) (w : World) (P : Nat → One) (h : Pow b w P) (hj : j < 16) (ha : a = j + 1) (ht : (P j).th = true) (h0 : 0 ≤ ac) (h4 : ac < 4) (hs : (P j).sl = false) :
    Calls Tryd.prog 16 #[.pointer (some ⟨b, 0, none⟩), .int .i64 a, .int .i64 ac, .bool more] w fun e w' => e = .returned (.tuple #[.bool false, .nilIface]) ∧ w = w' := by
  have hof := Lib.hid (of_there b a j w P h hj ha ht)
  have hma := Lib.hid (may_there b a ac j w P h hj ha ht h0 h4)
  rw [show mayO (P j) ac = true by simp [mayO, hs]] at hma
  obtain ⟨_, c1, _, _, _, _, _, fr⟩ := h.ten j hj
  rw [hs] at c1
  clear h ha ht hj hs
  generalize 10 * j = off at *
  go_enter Tryd.func16, Tryd.ntmps16
  go_wp2_with fail
  refine hof.out.mono ?_
  rintro e w' ⟨rfl, rfl⟩
  go_wp2_with fail
  refine (fair_in ac w h0 h4).mono ?_
  rintro e w' ⟨rfl, rfl⟩
  go_wp2_with fail
  refine hma.out.mono ?_
  rintro e w' ⟨rfl, rfl⟩
  go_wp2_with fail
  go_ret2
  exact ⟨rfl, rfl⟩
/-- Does the period end by this one? -/
def lastO (o : One) : Bool := decide (0 < o.most) && (o.left - 1 == 0)
def sentO (o : One) (more : Bool) : One := if lastO o || !more then { o with op := false, left := 0 } else if 0 < o.most then { o with left := o.left - 1 } else o
theorem sent_period (b : Nat) (a ac : Int) (more : Bool) (j : Nat) (w : World) (P : Nat → One) (h : Pow b w P) (hj : j < 16) (ha : a = j + 1) (ht : (P j).th = true) (h0 : 0 ≤ ac) (h4 : ac < 4) (hs : (P j).sl = true) (hp : (P j).po = false) (ho : (P j).op = true) (hu : uOf (P j) ac = true) (hl1 : -1000 ≤ (P j).left) (hl2 : (P j).left ≤ 1000) :
    Calls Tryd.prog 16 #[.pointer (some ⟨b, 0, none⟩), .int .i64 a, .int .i64 ac, .bool more] w fun e w' => e = .returned (.tuple #[.bool (lastO (P j) || !more), .nilIface]) ∧ Gro (some b) w w' ∧ Pow b w' (updP P j (sentO (P j) more)) := by
  have hof := Lib.hid (of_there b a j w P h hj ha ht)
  have hma := Lib.hid (may_there b a ac j w P h hj ha ht h0 h4)
  rw [show mayO (P j) ac = true by simp [mayO, ho, hu]] at hma
  obtain ⟨_, c1, c2, c3, _, c8, c9, fr⟩ := h.ten j hj
  rw [hs] at c1
  rw [hp] at c2
  rw [ho] at c3
  have P1 : Hid (Pow b (((w.setCell ⟨b, 10 * j + 9, none⟩ (.int .i64 ((P j).left - 1))).setCell ⟨b, 10 * j + 3, none⟩ (.bool false)).setCell ⟨b, 10 * j + 9, none⟩ (.int .i64 0)) (updP P j { P j with op := false, left := 0 })) := by
    have := ((h.s9 j hj ((P j).left - 1)).s3 j hj false).s9 j hj 0
    unfold Hid
    simpa only [updP_updP, updP_same] using this
  have P2 : Hid (Pow b ((w.setCell ⟨b, 10 * j + 3, none⟩ (.bool false)).setCell ⟨b, 10 * j + 9, none⟩ (.int .i64 0)) (updP P j { P j with op := false, left := 0 })) := by
    have := (h.s3 j hj false).s9 j hj 0
    unfold Hid
    simpa only [updP_updP, updP_same] using this
  have P3 := Lib.hid (h.s9 j hj ((P j).left - 1))
  have P4 : Hid (Pow b w (updP P j (P j))) := by unfold Hid; rw [updP_self]; exact h
  have hL : Hid (lastO (P j) = (decide (0 < (P j).most) && ((P j).left - 1 == 0))) := rfl
  have hS : Hid (sentO (P j) more = if lastO (P j) || !more then { P j with op := false, left := 0 } else if 0 < (P j).most then { P j with left := (P j).left - 1 } else P j) := rfl
  clear h ha ht hj hs hp ho hu
  generalize 10 * j = off at *
  generalize lastO (P j) = la at *
  generalize sentO (P j) more = so at *
  generalize (P j).most = mo at *
  generalize (P j).left = le at *
  by_cases hmo : 0 < mo
  · by_cases hle : le - 1 = 0
    · obtain rfl : la = true := by rw [hL.out]; simp [hmo, hle]
      have hso := Lib.hid hS.out
      rw [if_pos (by simp)] at hso
      have e1 : (le - 1 == 0) = true := by simpa using hle
      clear hS hL hle
      go_enter Tryd.func16, Tryd.ntmps16
      go_wp2_with fail
      refine hof.out.mono ?_
      rintro e w' ⟨rfl, rfl⟩
      go_wp2_with fail
      refine (fair_in ac w h0 h4).mono ?_
      rintro e w' ⟨rfl, rfl⟩
      go_wp2_with fail
      refine hma.out.mono ?_
      rintro e w' ⟨rfl, rfl⟩
      go_wp2_with fail
      go_ret2
      rw [hso.out]
      exact ⟨rfl, ((((Gro.refl _ _).setCell _ _).setCell _ _).setCell _ _), P1.out⟩
    · obtain rfl : la = false := by rw [hL.out]; simp [hle]
      have e1 : (le - 1 == 0) = false := by simpa using hle
      cases more
      · have hso := Lib.hid hS.out
        rw [if_pos (by simp)] at hso
        clear hS hL hle
        go_enter Tryd.func16, Tryd.ntmps16
        go_wp2_with fail
        refine hof.out.mono ?_
        rintro e w' ⟨rfl, rfl⟩
        go_wp2_with fail
        refine (fair_in ac w h0 h4).mono ?_
        rintro e w' ⟨rfl, rfl⟩
        go_wp2_with fail
        refine hma.out.mono ?_
        rintro e w' ⟨rfl, rfl⟩
        go_wp2_with fail
        go_ret2
        rw [hso.out]
        exact ⟨rfl, ((((Gro.refl _ _).setCell _ _).setCell _ _).setCell _ _), P1.out⟩
      · have hso := Lib.hid hS.out
        rw [if_neg (by simp), if_pos hmo] at hso
        clear hS hL hle
        go_enter Tryd.func16, Tryd.ntmps16
        go_wp2_with fail
        refine hof.out.mono ?_
        rintro e w' ⟨rfl, rfl⟩
        go_wp2_with fail
        refine (fair_in ac w h0 h4).mono ?_
        rintro e w' ⟨rfl, rfl⟩
        go_wp2_with fail
        refine hma.out.mono ?_
        rintro e w' ⟨rfl, rfl⟩
        go_wp2_with fail
        go_ret2
        rw [hso.out]
        exact ⟨rfl, ((Gro.refl _ _).setCell _ _), P3.out⟩
  · obtain rfl : la = false := by rw [hL.out]; simp [hmo]
    cases more
    · have hso := Lib.hid hS.out
      rw [if_pos (by simp)] at hso
      clear hS hL
      go_enter Tryd.func16, Tryd.ntmps16
      go_wp2_with fail
      refine hof.out.mono ?_
      rintro e w' ⟨rfl, rfl⟩
      go_wp2_with fail
      refine (fair_in ac w h0 h4).mono ?_
      rintro e w' ⟨rfl, rfl⟩
      go_wp2_with fail
      refine hma.out.mono ?_
      rintro e w' ⟨rfl, rfl⟩
      go_wp2_with fail
      go_ret2
      rw [hso.out]
      exact ⟨rfl, (((Gro.refl _ _).setCell _ _).setCell _ _), P2.out⟩
    · have hso := Lib.hid hS.out
      rw [if_neg (by simp), if_neg hmo] at hso
      clear hS hL
      go_enter Tryd.func16, Tryd.ntmps16
      go_wp2_with fail
      refine hof.out.mono ?_
      rintro e w' ⟨rfl, rfl⟩
      go_wp2_with fail
      refine (fair_in ac w h0 h4).mono ?_
      rintro e w' ⟨rfl, rfl⟩
      go_wp2_with fail
      refine hma.out.mono ?_
      rintro e w' ⟨rfl, rfl⟩
      go_wp2_with fail
      go_ret2
      rw [hso.out]
      exact ⟨rfl, Gro.refl _ _, P4.out⟩
end Go.Proofs.YtkklnocbbpaipaaDoor
