/-
  THE WALKS OF package ps: what each call gives, and what it leaves. Conditions: the block is whole ('Pow').
-/
import Derived.Test.YtkklnocbbpaipaaDoorPs
namespace Go.Proofs.YtkklnocbbpaipaaDoor
open Go.RowKit

def uOf (o : One) (ac : Int) : Bool := if ac = 0 then o.u0 else if ac = 1 then o.u1 else if ac = 2 then o.u2 else o.u3
def mayO (o : One) (ac : Int) : Bool := !o.sl || o.po || (o.op && uOf o ac)
def dozeO (o : One) (on : Bool) : One := if o.sl = on then o else { o with sl := on, po := false, op := false, left := 0 }

/-- The ten cells of a station. -/
structure Ten (w : World) (b off : Nat) (o : One) : Prop where
  c0 : w.cell? ⟨b, off, none⟩ = some (.bool o.th)
  c1 : w.cell? ⟨b, off + 1, none⟩ = some (.bool o.sl)
  c2 : w.cell? ⟨b, off + 2, none⟩ = some (.bool o.po)
  c3 : w.cell? ⟨b, off + 3, none⟩ = some (.bool o.op)
  c4 : ∀ ac : Int, 0 ≤ ac → ac < 4 → w.cell? ⟨b, off + 4 + ac.toNat, none⟩ = some (.bool (uOf o ac))
  c8 : w.cell? ⟨b, off + 8, none⟩ = some (.int .i64 o.most)
  c9 : w.cell? ⟨b, off + 9, none⟩ = some (.int .i64 o.left)
  fr : ∀ k, w.frozen? ⟨b, k, none⟩ = false
theorem Pow.ten {b : Nat} {w : World} {P : Nat → One} (h : Pow b w P) (j : Nat) (hj : j < 16) : Ten w b (10 * j) (P j) := by
  refine ⟨h.cell j hj 0 (by decide), h.cell j hj 1 (by decide), h.cell j hj 2 (by decide), h.cell j hj 3 (by decide), fun ac h0 h4 => ?_, h.cell j hj 8 (by decide), h.cell j hj 9 (by decide), h.fr⟩
  rcases (show ac = 0 ∨ ac = 1 ∨ ac = 2 ∨ ac = 3 from by omega) with rfl | rfl | rfl | rfl
  · exact h.cell j hj 4 (by decide)
  · exact h.cell j hj 5 (by decide)
  · exact h.cell j hj 6 (by decide)
  · exact h.cell j hj 7 (by decide)

theorem of_there (b : Nat) (a : Int) (j : Nat) (w : World) (P : Nat → One) (h : Pow b w P) (hj : j < 16) (ha : a = j + 1) (ht : (P j).th = true) :
    Calls Tryd.prog 31 #[.pointer (some ⟨b, 0, none⟩), .int .i64 a] w fun e w' => e = .returned (.pointer (some ⟨b, 10 * j, none⟩)) ∧ w = w' := by
  have h1 : 1 ≤ a := by omega
  have h2 : a ≤ 16 := by omega
  have hc : w.cell? ⟨b, (a.toNat - 1) * 10, none⟩ = some (.bool true) := by
    have := (h.ten j hj).c0
    rw [ht] at this
    rw [← this]; congr 2; omega
  have he : Hid ((a.toNat - 1) * 10 = 10 * j) := by unfold Hid; omega
  clear h ha ht hj
  go_enter Tryd.func31, Tryd.ntmps31
  go_wp2
  go_ret
  exact ⟨by rw [← he.out]; rfl, rfl⟩
theorem of_gone (b : Nat) (a : Int) (j : Nat) (w : World) (P : Nat → One) (h : Pow b w P) (hj : j < 16) (ha : a = j + 1) (ht : (P j).th = false) :
    Calls Tryd.prog 31 #[.pointer (some ⟨b, 0, none⟩), .int .i64 a] w fun e w' => e = .returned (.pointer none) ∧ w = w' := by
  have h1 : 1 ≤ a := by omega
  have h2 : a ≤ 16 := by omega
  have hc : w.cell? ⟨b, (a.toNat - 1) * 10, none⟩ = some (.bool false) := by
    have := (h.ten j hj).c0
    rw [ht] at this
    rw [← this]; congr 2; omega
  clear h ha ht hj
  go_enter Tryd.func31, Tryd.ntmps31
  go_wp2
  go_ret
  exact ⟨rfl, rfl⟩
theorem of_out (p : Value) (a : Int) (w : World) (h : a < 1 ∨ 16 < a) :
    Calls Tryd.prog 31 #[p, .int .i64 a] w fun e w' => e = .returned (.pointer none) ∧ w = w' := by
  rcases h with h | h
  · go_enter Tryd.func31, Tryd.ntmps31
    go_wp2
    go_ret
    exact ⟨rfl, rfl⟩
  · have h' : 1 ≤ a := by omega
    go_enter Tryd.func31, Tryd.ntmps31
    go_wp2
    go_ret
    exact ⟨rfl, rfl⟩
/-- A station that is none, or that nobody has. -/
def Gone (P : Nat → One) (a : Int) : Prop := (a < 1 ∨ 16 < a) ∨ ∃ j : Nat, j < 16 ∧ a = j + 1 ∧ (P j).th = false
theorem of_nil (b : Nat) (a : Int) (w : World) (P : Nat → One) (h : Pow b w P) (hg : Gone P a) :
    Calls Tryd.prog 31 #[.pointer (some ⟨b, 0, none⟩), .int .i64 a] w fun e w' => e = .returned (.pointer none) ∧ w = w' := by
  rcases hg with hg | ⟨j, hj, ha, ht⟩
  · exact of_out _ a w hg
  · exact of_gone b a j w P h hj ha ht

theorem asleep_there (b : Nat) (a : Int) (j : Nat) (w : World) (P : Nat → One) (h : Pow b w P) (hj : j < 16) (ha : a = j + 1) (ht : (P j).th = true) :
    Calls Tryd.prog 14 #[.pointer (some ⟨b, 0, none⟩), .int .i64 a] w fun e w' => e = .returned (.bool (P j).sl) ∧ w = w' := by
  have hof := Lib.hid (of_there b a j w P h hj ha ht)
  obtain ⟨_, c1, _, _, _, _, _, _⟩ := h.ten j hj
  clear h ha ht hj
  generalize 10 * j = off at *
  go_enter Tryd.func14, Tryd.ntmps14
  go_wp2_with fail
  refine hof.out.mono ?_
  rintro e w' ⟨rfl, rfl⟩
  go_wp2_with fail
  go_ret
  exact ⟨rfl, rfl⟩
theorem asleep_nil (b : Nat) (a : Int) (w : World) (P : Nat → One) (h : Pow b w P) (hg : Gone P a) :
    Calls Tryd.prog 14 #[.pointer (some ⟨b, 0, none⟩), .int .i64 a] w fun e w' => e = .returned (.bool false) ∧ w = w' := by
  have hof := Lib.hid (of_nil b a w P h hg)
  clear h hg
  go_enter Tryd.func14, Tryd.ntmps14
  go_wp2_with fail
  refine hof.out.mono ?_
  rintro e w' ⟨rfl, rfl⟩
  go_wp2_with fail
  go_ret
  exact ⟨rfl, rfl⟩
theorem polled_there (b : Nat) (a : Int) (j : Nat) (w : World) (P : Nat → One) (h : Pow b w P) (hj : j < 16) (ha : a = j + 1) (ht : (P j).th = true) :
    Calls Tryd.prog 15 #[.pointer (some ⟨b, 0, none⟩), .int .i64 a] w fun e w' => e = .returned (.bool (P j).po) ∧ w = w' := by
  have hof := Lib.hid (of_there b a j w P h hj ha ht)
  obtain ⟨_, _, c2, _, _, _, _, _⟩ := h.ten j hj
  clear h ha ht hj
  generalize 10 * j = off at *
  go_enter Tryd.func15, Tryd.ntmps15
  go_wp2_with fail
  refine hof.out.mono ?_
  rintro e w' ⟨rfl, rfl⟩
  go_wp2_with fail
  go_ret
  exact ⟨rfl, rfl⟩
theorem polled_nil (b : Nat) (a : Int) (w : World) (P : Nat → One) (h : Pow b w P) (hg : Gone P a) :
    Calls Tryd.prog 15 #[.pointer (some ⟨b, 0, none⟩), .int .i64 a] w fun e w' => e = .returned (.bool false) ∧ w = w' := by
  have hof := Lib.hid (of_nil b a w P h hg)
  clear h hg
  go_enter Tryd.func15, Tryd.ntmps15
  go_wp2_with fail
  refine hof.out.mono ?_
  rintro e w' ⟨rfl, rfl⟩
  go_wp2_with fail
  go_ret
  exact ⟨rfl, rfl⟩

theorem fair_in (a : Int) (w : World) (h1 : 0 ≤ a) (h2 : a < 4) : Calls Tryd.prog 32 #[.int .i64 a] w fun e w' => e = .returned (.bool true) ∧ w = w' := by
  go_enter Tryd.func32, Tryd.ntmps32
  go_wp2
  go_ret
  exact ⟨rfl, rfl⟩
theorem fair_out (a : Int) (w : World) (h : a < 0 ∨ 4 ≤ a) : Calls Tryd.prog 32 #[.int .i64 a] w fun e w' => e = .returned (.bool false) ∧ w = w' := by
  rcases h with h | h
  · go_enter Tryd.func32, Tryd.ntmps32
    go_wp2
    go_ret
    exact ⟨rfl, rfl⟩
  · have h' : 0 ≤ a := by omega
    have hd : decide (a < 4) = false := by simp; omega
    go_enter Tryd.func32, Tryd.ntmps32
    go_wp2
    go_ret
    exact ⟨rfl, rfl⟩

theorem may_there (b : Nat) (a ac : Int) (j : Nat) (w : World) (P : Nat → One) (h : Pow b w P) (hj : j < 16) (ha : a = j + 1) (ht : (P j).th = true) (h0 : 0 ≤ ac) (h4 : ac < 4) :
    Calls Tryd.prog 13 #[.pointer (some ⟨b, 0, none⟩), .int .i64 a, .int .i64 ac] w fun e w' => e = .returned (.bool (mayO (P j) ac)) ∧ w = w' := by
  have hof := Lib.hid (of_there b a j w P h hj ha ht)
  obtain ⟨_, c1, c2, c3, c4, _, _, _⟩ := h.ten j hj
  have c4 := c4 ac h0 h4
  have hm : Hid (mayO (P j) ac = (!(P j).sl || (P j).po || ((P j).op && uOf (P j) ac))) := rfl
  clear h ha ht hj
  generalize 10 * j = off at *
  generalize mayO (P j) ac = r at *
  generalize (P j).sl = sl at *
  generalize (P j).po = po at *
  generalize (P j).op = op at *
  cases sl <;> cases po <;> cases op
  all_goals
    have hr := hm.out
    simp only [Bool.not_false, Bool.not_true, Bool.true_or, Bool.false_or, Bool.or_false, Bool.or_true, Bool.true_and, Bool.false_and] at hr
    have HR := Lib.hid hr
    clear hm hr
    go_enter Tryd.func13, Tryd.ntmps13
    go_wp2_with fail
    refine hof.out.mono ?_
    rintro e w' ⟨rfl, rfl⟩
    go_wp2_with fail
    refine (fair_in ac w h0 h4).mono ?_
    rintro e w' ⟨rfl, rfl⟩
    go_wp2_with fail
    go_ret
    exact ⟨ret_bool HR.out.symm, rfl⟩
theorem may_nil (b : Nat) (a ac : Int) (w : World) (P : Nat → One) (h : Pow b w P) (hg : Gone P a) :
    Calls Tryd.prog 13 #[.pointer (some ⟨b, 0, none⟩), .int .i64 a, .int .i64 ac] w fun e w' => e = .returned (.bool false) ∧ w = w' := by
  have hof := Lib.hid (of_nil b a w P h hg)
  clear h hg
  go_enter Tryd.func13, Tryd.ntmps13
  go_wp2_with fail
  refine hof.out.mono ?_
  rintro e w' ⟨rfl, rfl⟩
  go_wp2_with fail
  go_ret
  exact ⟨rfl, rfl⟩
theorem may_far (b : Nat) (a ac : Int) (j : Nat) (w : World) (P : Nat → One) (h : Pow b w P) (hj : j < 16) (ha : a = j + 1) (ht : (P j).th = true) (h0 : ac < 0 ∨ 4 ≤ ac) :
    Calls Tryd.prog 13 #[.pointer (some ⟨b, 0, none⟩), .int .i64 a, .int .i64 ac] w fun e w' => e = .returned (.bool false) ∧ w = w' := by
  have hof := Lib.hid (of_there b a j w P h hj ha ht)
  have hfa := Lib.hid (fair_out ac w h0)
  clear h ha ht hj h0
  go_enter Tryd.func13, Tryd.ntmps13
  go_wp2_with fail
  refine hof.out.mono ?_
  rintro e w' ⟨rfl, rfl⟩
  go_wp2_with fail
  refine hfa.out.mono ?_
  rintro e w' ⟨rfl, rfl⟩
  go_wp2_with fail
  go_ret
  exact ⟨rfl, rfl⟩

theorem doze_there (b : Nat) (a : Int) (on : Bool) (j : Nat) (w : World) (P : Nat → One) (h : Pow b w P) (hj : j < 16) (ha : a = j + 1) (ht : (P j).th = true) :
    Calls Tryd.prog 10 #[.pointer (some ⟨b, 0, none⟩), .int .i64 a, .bool on] w fun e w' => e = .returned .nilIface ∧ Gro (some b) w w' ∧ Pow b w' (updP P j (dozeO (P j) on)) := by
  have hof := Lib.hid (of_there b a j w P h hj ha ht)
  obtain ⟨_, c1, c2, c3, _, _, c9, fr⟩ := h.ten j hj
  by_cases hs : (P j).sl = on
  · have hP : Hid (Pow b w (updP P j (dozeO (P j) on))) := by
      unfold Hid dozeO; rw [if_pos hs, updP_self]; exact h
    rw [hs] at c1
    clear h ha ht hj hs
    generalize 10 * j = off at *
    go_enter Tryd.func10, Tryd.ntmps10
    go_wp2_with fail
    refine hof.out.mono ?_
    rintro e w' ⟨rfl, rfl⟩
    go_wp2_with fail
    go_ret
    exact ⟨rfl, Gro.refl _ _, hP.out⟩
  · have hP : Hid (Pow b ((((w.setCell ⟨b, 10 * j + 1, none⟩ (.bool on)).setCell ⟨b, 10 * j + 2, none⟩ (.bool false)).setCell ⟨b, 10 * j + 3, none⟩ (.bool false)).setCell ⟨b, 10 * j + 9, none⟩ (.int .i64 0)) (updP P j (dozeO (P j) on))) := by
      unfold Hid dozeO
      rw [if_neg hs]
      have := (((h.s1 j hj on).s2 j hj false).s3 j hj false).s9 j hj 0
      simpa only [updP_updP, updP_same] using this
    have hne : ((P j).sl != on) = true := by simpa using hs
    have hne2 : ((P j).sl == on) = false := by simpa using hs
    clear h ha ht hj hs
    generalize 10 * j = off at *
    generalize (P j).sl = sl at *
    go_enter Tryd.func10, Tryd.ntmps10
    go_wp2_with fail
    refine hof.out.mono ?_
    rintro e w' ⟨rfl, rfl⟩
    go_wp2_with fail
    go_ret
    exact ⟨rfl, ((((Gro.refl _ _).setCell _ _).setCell _ _).setCell _ _).setCell _ _, hP.out⟩

theorem poll_there (b : Nat) (a : Int) (j : Nat) (w : World) (P : Nat → One) (h : Pow b w P) (hj : j < 16) (ha : a = j + 1) (ht : (P j).th = true) (hs : (P j).sl = true) (ho : (P j).op = false) :
    Calls Tryd.prog 11 #[.pointer (some ⟨b, 0, none⟩), .int .i64 a] w fun e w' => e = .returned .nilIface ∧ Gro (some b) w w' ∧ Pow b w' (updP P j { P j with po := true }) := by
  have hof := Lib.hid (of_there b a j w P h hj ha ht)
  obtain ⟨_, c1, c2, c3, _, _, _, fr⟩ := h.ten j hj
  have hP := Lib.hid (h.s2 j hj true)
  rw [hs] at c1
  rw [ho] at c3
  clear h ha ht hj hs ho
  generalize 10 * j = off at *
  go_enter Tryd.func11, Tryd.ntmps11
  go_wp2_with fail
  refine hof.out.mono ?_
  rintro e w' ⟨rfl, rfl⟩
  go_wp2_with fail
  go_ret
  exact ⟨rfl, (Gro.refl _ _).setCell _ _, hP.out⟩
theorem poll_state (b : Nat) (a : Int) (v : Value) (j : Nat) (w : World) (P : Nat → One) (h : Pow b w P) (hj : j < 16) (ha : a = j + 1) (ht : (P j).th = true) (hs : (P j).sl = false ∨ (P j).op = true) (hv : w.cell? ⟨3, 0, none⟩ = some v) :
    Calls Tryd.prog 11 #[.pointer (some ⟨b, 0, none⟩), .int .i64 a] w fun e w' => e = .returned v ∧ w = w' := by
  have hof := Lib.hid (of_there b a j w P h hj ha ht)
  obtain ⟨_, c1, _, c3, _, _, _, _⟩ := h.ten j hj
  clear h ha ht hj
  generalize 10 * j = off at *
  generalize (P j).sl = sl at *
  generalize (P j).op = op at *
  cases sl
  · clear hs
    go_enter Tryd.func11, Tryd.ntmps11
    go_wp2_with fail
    refine hof.out.mono ?_
    rintro e w' ⟨rfl, rfl⟩
    go_wp2_with fail
    go_ret
    exact ⟨rfl, rfl⟩
  · obtain rfl : op = true := by simpa using hs
    clear hs
    go_enter Tryd.func11, Tryd.ntmps11
    go_wp2_with fail
    refine hof.out.mono ?_
    rintro e w' ⟨rfl, rfl⟩
    go_wp2_with fail
    go_ret
    exact ⟨rfl, rfl⟩
end Go.Proofs.YtkklnocbbpaipaaDoor
