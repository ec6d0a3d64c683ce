/-
  THE WALKS OF THE DOCUMENT's OWN LIMIT (muezzinref15.Aql). Conditions: its block is whole ('Ref'), its numbers small enough that no sum wraps.
-/
import Derived.Test.YtcoohlejbeoibaaDoorAqlSub
namespace Go.Proofs.YtcoohlejbeoibaaDoor
open Go.RowKit Aql

/-- The cells of the document's limit: its number 0 is never used. -/
def refO (st al : Int) (f : Nat → Int) : Array Value := #[.int .i64 st, .int .i64 al, .int .i64 0, .int .i64 (f 0), .int .i64 (f 1), .int .i64 (f 2), .int .i64 (f 3), .int .i64 (f 4), .int .i64 (f 5), .int .i64 (f 6), .int .i64 (f 7), .int .i64 (f 8), .int .i64 (f 9), .int .i64 (f 10), .int .i64 (f 11), .int .i64 (f 12), .int .i64 (f 13), .int .i64 (f 14), .int .i64 (f 15)]
def Ref (b : Nat) (w : World) (st al : Int) (f : Nat → Int) : Prop := w.heap[b]? = some (.cells (refO st al f) 42 (0, 0))

theorem refO_at (st al : Int) (f : Nat → Int) (j : Nat) (h : j < 16) : (refO st al f)[2 + (j + 1)]? = some (.int .i64 (f j)) :=
  all16 (P := fun j => (refO st al f)[2 + (j + 1)]? = some (.int .i64 (f j))) rfl rfl rfl rfl rfl rfl rfl rfl rfl rfl rfl rfl rfl rfl rfl rfl j h
theorem refO_set (st al : Int) (f : Nat → Int) (j : Nat) (h : j < 16) (v : Int) : (refO st al f).setIfInBounds (2 + (j + 1)) (.int .i64 v) = refO st al (upd f j v) :=
  all16 (P := fun j => (refO st al f).setIfInBounds (2 + (j + 1)) (.int .i64 v) = refO st al (upd f j v)) rfl rfl rfl rfl rfl rfl rfl rfl rfl rfl rfl rfl rfl rfl rfl rfl j h
section
variable {b : Nat} {w : World} {st al : Int} {f : Nat → Int}
theorem Ref.cst (h : Ref b w st al f) : w.cell? ⟨b, 0, none⟩ = some (.int .i64 st) := by rw [cell_of_row w b 0 _ _ _ h]; rfl
theorem Ref.cal (h : Ref b w st al f) : w.cell? ⟨b, 1, none⟩ = some (.int .i64 al) := by rw [cell_of_row w b 1 _ _ _ h]; rfl
theorem Ref.c0 (h : Ref b w st al f) : w.cell? ⟨b, 2, none⟩ = some (.int .i64 0) := by rw [cell_of_row w b 2 _ _ _ h]; rfl
theorem Ref.l (h : Ref b w st al f) (j : Nat) (hj : j < 16) : w.cell? ⟨b, 2 + (j + 1), none⟩ = some (.int .i64 (f j)) := by rw [cell_of_row w b _ _ _ _ h]; exact refO_at st al f j hj
theorem Ref.at (h : Ref b w st al f) (a : Int) (j : Nat) (hj : j < 16) (ha : a = j + 1) : w.cell? ⟨b, 2 + a.toNat, none⟩ = some (.int .i64 (f j)) := by
  have e : a.toNat = j + 1 := by omega
  rw [e]; exact h.l j hj
theorem Ref.fr (h : Ref b w st al f) (j : Nat) : w.frozen? ⟨b, j, none⟩ = false := frozen_of_row w b j _ _ h
theorem Ref.lt (h : Ref b w st al f) : b < w.heap.size := block_lt_of_cell h.cst
theorem Ref.gro {row : Option Nat} {w' : World} (h : Ref b w st al f) (k : Gro row w w') (hr : some b ≠ row) : Ref b w' st al f := (k.block b h.lt hr).trans h
theorem Ref.heap {w' : World} (h : Ref b w st al f) (k : w'.heap = w.heap) : Ref b w' st al f := by unfold Ref; rw [k]; exact h
theorem Ref.set (h : Ref b w st al f) (a : Int) (j : Nat) (hj : j < 16) (ha : a = j + 1) (v : Int) : Ref b (w.setCell ⟨b, 2 + a.toNat, none⟩ (.int .i64 v)) st al (upd f j v) := by
  have e : a.toNat = j + 1 := by omega
  unfold Ref
  rw [e, heap_setCell_same w b (2 + (j + 1)) _ _ _ h, refO_set st al f j hj v]
end

theorem aid_in (a : Int) (w : World) (h1 : 1 ≤ a) (h2 : a ≤ 16) : Calls Tryd.prog 25 #[.int .i64 a] w fun e w' => e = .returned (.bool true) ∧ w = w' := by
  go_enter Tryd.func25, Tryd.ntmps25
  go_wp2
  go_ret
  exact ⟨rfl, rfl⟩
theorem aid_out (a : Int) (w : World) (h : a < 1 ∨ 16 < a) : Calls Tryd.prog 25 #[.int .i64 a] w fun e w' => e = .returned (.bool false) ∧ w = w' := by
  rcases h with h | h
  · go_enter Tryd.func25, Tryd.ntmps25
    go_wp2
    go_ret
    exact ⟨rfl, rfl⟩
  · have h' : 1 ≤ a := by omega
    have hd : decide (a ≤ 16) = false := by simp; omega
    go_enter Tryd.func25, Tryd.ntmps25
    go_wp2
    go_ret
    exact ⟨rfl, rfl⟩

theorem refAll_any (b : Nat) (w : World) (st al : Int) (f : Nat → Int) (h : Ref b w st al f) (hb : ∀ j, j < 16 → 0 ≤ f j ∧ f j ≤ 140737488355328) :
    Calls Tryd.prog 20 #[.pointer (some ⟨b, 0, none⟩)] w fun e w' => e = .returned (.int .i64 (sumTo f 16)) ∧ w = w' := by
  have h0 := h.c0
  have hl : Hid (∀ j, j < 16 → w.cell? ⟨b, 2 + (j + 1), none⟩ = some (.int .i64 (f j))) := h.l
  have hsum : Hid (∀ k : Nat, k ≤ 16 → 0 ≤ sumTo f k ∧ sumTo f k ≤ 2251799813685248) := by
    intro k hk
    have := sumTo_bd f 140737488355328 k (fun j hj => hb j (by omega))
    omega
  have HB := Lib.hid hb
  clear h hb
  go_enter Tryd.func20, Tryd.ntmps20
  go_wp2_with fail
  go_loop [3, 4] (fun n i => ∃ k : Nat, k ≤ 17 ∧ i = .int .i64 k ∧ n = .int .i64 (sumTo f (k - 1))) (fun _ i => 17 - (intOf i).toNat)
  case atStart => exact ⟨0, Nat.zero_le _, rfl, rfl⟩
  case round =>
    obtain ⟨k, hk, rfl, rfl⟩ := hrel
    obtain ⟨s1, s2⟩ := hsum.out (k - 1) (by omega)
    by_cases hlt : k < 17
    · cases k with
      | zero =>
        go_wp2
        go_round
        case rel => exact ⟨1, by omega, rfl, by simp [sumTo]; exact IntWalk.wrap64_in 0 ⟨by decide, by decide⟩⟩
        case measure => simp [intOf]
      | succ k =>
        have hck := hl.out k (by omega)
        obtain ⟨b1, b2⟩ := HB.out k (by omega)
        simp only [Nat.add_sub_cancel] at *
        go_wp2
        go_round
        case rel => exact ⟨k + 2, by omega, by go_num, rfl⟩
        case measure => simp [intOf]; omega
    · obtain rfl : k = 17 := by omega
      go_wp2
      go_ret
      exact ⟨rfl, rfl⟩
theorem refAdd_in (b : Nat) (a n : Int) (j : Nat) (w : World) (st al : Int) (f : Nat → Int) (h : Ref b w st al f) (hj : j < 16) (ha : a = j + 1) (hn0 : 0 ≤ n) (hn : n ≤ 1099511627776) (hf : 0 ≤ f j ∧ f j ≤ 140737488355328) :
    Calls Tryd.prog 17 #[.pointer (some ⟨b, 0, none⟩), .int .i64 a, .int .i64 n] w fun e w' => e = .returned (.int .i64 0) ∧ Gro (some b) w w' ∧ Ref b w' st al (upd f j (f j + n)) := by
  have hc := h.at a j hj ha
  have hfr := h.fr (2 + a.toNat)
  have hset : Hid (∀ v, Ref b (w.setCell ⟨b, 2 + a.toNat, none⟩ (.int .i64 v)) st al (upd f j v)) := fun v => h.set a j hj ha v
  have h1 : 1 ≤ a := by omega
  have h2 : a ≤ 16 := by omega
  obtain ⟨hf0, hf1⟩ := hf
  clear h ha hj
  generalize f j = x at *
  go_enter Tryd.func17, Tryd.ntmps17
  go_wp2_with fail
  refine (aid_in a w h1 h2).mono ?_
  rintro e w' ⟨rfl, rfl⟩
  go_wp2_with fail
  go_region
  all_goals (try go_wp2)
  all_goals go_ret
  all_goals exact ⟨rfl, ((Gro.refl _ _).setCell _ _).drew, (hset.out _).heap rfl⟩
theorem refAdd_out (p : Value) (a n : Int) (w : World) (h : (a < 1 ∨ 16 < a) ∨ n < 0 ∨ 1099511627776 < n) :
    Calls Tryd.prog 17 #[p, .int .i64 a, .int .i64 n] w fun e w' => e = .returned (.int .i64 103) ∧ w = w' := by
  by_cases ha : a < 1 ∨ 16 < a
  · go_enter Tryd.func17, Tryd.ntmps17
    go_wp2_with fail
    refine (aid_out a w ha).mono ?_
    rintro e w' ⟨rfl, rfl⟩
    go_wp2_with fail
    go_ret
    exact ⟨rfl, rfl⟩
  · have h1 : 1 ≤ a := by omega
    have h2 : a ≤ 16 := by omega
    by_cases hn : n < 0
    · clear ha h
      go_enter Tryd.func17, Tryd.ntmps17
      go_wp2_with fail
      refine (aid_in a w h1 h2).mono ?_
      rintro e w' ⟨rfl, rfl⟩
      go_wp2_with fail
      go_ret
      exact ⟨rfl, rfl⟩
    · have hn2 : 1099511627776 < n := by omega
      clear ha h
      go_enter Tryd.func17, Tryd.ntmps17
      go_wp2_with fail
      refine (aid_in a w h1 h2).mono ?_
      rintro e w' ⟨rfl, rfl⟩
      go_wp2_with fail
      go_ret
      exact ⟨rfl, rfl⟩

theorem refSub_in (b : Nat) (a n : Int) (j : Nat) (w : World) (st al : Int) (f : Nat → Int) (h : Ref b w st al f) (hj : j < 16) (ha : a = j + 1) (hn0 : 0 ≤ n) (hn : n ≤ 1099511627776) (hf0 : n ≤ f j) (hf1 : f j ≤ 140737488355328) :
    Calls Tryd.prog 18 #[.pointer (some ⟨b, 0, none⟩), .int .i64 a, .int .i64 n] w fun e w' => e = .returned (.int .i64 0) ∧ Gro (some b) w w' ∧ Ref b w' st al (upd f j (f j - n)) := by
  have hc := h.at a j hj ha
  have hfr := h.fr (2 + a.toNat)
  have hset : Hid (∀ v, Ref b (w.setCell ⟨b, 2 + a.toNat, none⟩ (.int .i64 v)) st al (upd f j v)) := fun v => h.set a j hj ha v
  have h1 : 1 ≤ a := by omega
  have h2 : a ≤ 16 := by omega
  clear h ha hj
  generalize f j = x at *
  go_enter Tryd.func18, Tryd.ntmps18
  go_wp2_with fail
  refine (aid_in a w h1 h2).mono ?_
  rintro e w' ⟨rfl, rfl⟩
  go_wp2_with fail
  go_region
  all_goals (try go_wp2)
  all_goals go_ret
  all_goals exact ⟨rfl, ((Gro.refl _ _).setCell _ _).drew, (hset.out _).heap rfl⟩
theorem refSub_low (b : Nat) (a n : Int) (j : Nat) (w : World) (st al : Int) (f : Nat → Int) (h : Ref b w st al f) (hj : j < 16) (ha : a = j + 1) (hn0 : 0 ≤ n) (hn : n ≤ 1099511627776) (hf0 : f j < n) :
    Calls Tryd.prog 18 #[.pointer (some ⟨b, 0, none⟩), .int .i64 a, .int .i64 n] w fun e w' => e = .returned (.int .i64 110) ∧ w = w' := by
  have hc := h.at a j hj ha
  have h1 : 1 ≤ a := by omega
  have h2 : a ≤ 16 := by omega
  clear h ha hj
  generalize f j = x at *
  go_enter Tryd.func18, Tryd.ntmps18
  go_wp2_with fail
  refine (aid_in a w h1 h2).mono ?_
  rintro e w' ⟨rfl, rfl⟩
  go_wp2_with fail
  go_ret
  exact ⟨rfl, rfl⟩
theorem refSub_out (p : Value) (a n : Int) (w : World) (h : (a < 1 ∨ 16 < a) ∨ n < 0 ∨ 1099511627776 < n) :
    Calls Tryd.prog 18 #[p, .int .i64 a, .int .i64 n] w fun e w' => e = .returned (.int .i64 103) ∧ w = w' := by
  by_cases ha : a < 1 ∨ 16 < a
  · go_enter Tryd.func18, Tryd.ntmps18
    go_wp2_with fail
    refine (aid_out a w ha).mono ?_
    rintro e w' ⟨rfl, rfl⟩
    go_wp2_with fail
    go_ret
    exact ⟨rfl, rfl⟩
  · have h1 : 1 ≤ a := by omega
    have h2 : a ≤ 16 := by omega
    by_cases hn : n < 0
    · clear ha h
      go_enter Tryd.func18, Tryd.ntmps18
      go_wp2_with fail
      refine (aid_in a w h1 h2).mono ?_
      rintro e w' ⟨rfl, rfl⟩
      go_wp2_with fail
      go_ret
      exact ⟨rfl, rfl⟩
    · have hn2 : 1099511627776 < n := by omega
      clear ha h
      go_enter Tryd.func18, Tryd.ntmps18
      go_wp2_with fail
      refine (aid_in a w h1 h2).mono ?_
      rintro e w' ⟨rfl, rfl⟩
      go_wp2_with fail
      go_ret
      exact ⟨rfl, rfl⟩

theorem refMay_out (p : Value) (a : Int) (w : World) (h : a < 1 ∨ 16 < a) :
    Calls Tryd.prog 19 #[p, .int .i64 a] w fun e w' => e = .returned (.bool false) ∧ ∃ n, w' = w.drewN n := by
  have HO : Hid (∀ n, Calls Tryd.prog 25 #[.int .i64 a] (w.drewN n) fun e w' => e = .returned (.bool false) ∧ w' = w.drewN n) := fun n => (aid_out a _ h).mono fun e w' ⟨he, hw⟩ => ⟨he, hw.symm⟩
  clear h
  go_enter Tryd.func19, Tryd.ntmps19
  go_wp2_with fail
  go_quiet ((go_at_call 25; exact Calls.quiet_of_same (HO.out _)))
  go_wp2_with fail
  go_ret
  exact ⟨rfl, _, rfl⟩
theorem refMay_in (b : Nat) (a : Int) (j : Nat) (w : World) (st al : Int) (f : Nat → Int) (h : Ref b w st al f) (hb : ∀ j, j < 16 → 0 ≤ f j ∧ f j ≤ 140737488355328) (hj : j < 16) (ha : a = j + 1) :
    Calls Tryd.prog 19 #[.pointer (some ⟨b, 0, none⟩), .int .i64 a] w fun e w' => e = .returned (.bool (mayB st al f j)) ∧ ∃ n, w' = w.drewN n := by
  have hc := h.at a j hj ha
  have hst := h.cst
  have hal := h.cal
  have h1 : 1 ≤ a := by omega
  have h2 : a ≤ 16 := by omega
  have HO : Hid (∀ n, Calls Tryd.prog 25 #[.int .i64 a] (w.drewN n) fun e w' => e = .returned (.bool true) ∧ w' = w.drewN n) := fun n => (aid_in a _ h1 h2).mono fun e w' ⟨he, hw⟩ => ⟨he, hw.symm⟩
  have HA : Hid (∀ n, Calls Tryd.prog 20 #[.pointer (some ⟨b, 0, none⟩)] (w.drewN n) fun e w' => e = .returned (.int .i64 (sumTo f 16)) ∧ w' = w.drewN n) := fun n =>
    (refAll_any b (w.drewN n) st al f (h.heap (by cases n <;> rfl)) hb).mono fun e w' ⟨he, hw⟩ => ⟨he, hw.symm⟩
  have hm : Hid (mayB st al f j = (decide (f j = 0) || (decide (f j < st) && decide (sumTo f 16 < al)))) := rfl
  clear h hb ha hj
  generalize f j = x at *
  generalize sumTo f 16 = y at *
  generalize mayB st al f j = r at *
  by_cases h0 : x = 0
  · have e0 : (x == 0) = true := by simpa using h0
    have hr : r = true := by rw [hm.out, h0]; simp
    subst hr
    clear hm h0
    go_enter Tryd.func19, Tryd.ntmps19
    go_wp2_with fail
    go_quiet ((go_at_call 25; exact Calls.quiet_of_same (HO.out _)))
    go_wp2_with fail
    go_ret
    exact ⟨rfl, _, rfl⟩
  · have e0 : (x == 0) = false := by simpa using h0
    by_cases h3 : x < st
    · have e1 : decide (x < st) = true := by simpa using h3
      have hr : r = decide (y < al) := by rw [hm.out]; simp [h0, h3]
      subst hr
      clear hm h0
      go_enter Tryd.func19, Tryd.ntmps19
      go_wp2_with fail
      go_quiet ((first | (go_at_call 25; exact Calls.quiet_of_same (HO.out _)) | (go_at_call 20; exact Calls.quiet_of_same (HA.out _))))
      go_wp2_with fail
      go_ret
      exact ⟨rfl, _, rfl⟩
    · have e1 : decide (x < st) = false := by simpa using h3
      have hr : r = false := by rw [hm.out]; simp [h0, h3]
      subst hr
      clear hm h0
      go_enter Tryd.func19, Tryd.ntmps19
      go_wp2_with fail
      go_quiet ((go_at_call 25; exact Calls.quiet_of_same (HO.out _)))
      go_wp2_with fail
      go_ret
      exact ⟨rfl, _, rfl⟩
end Go.Proofs.YtcoohlejbeoibaaDoor
