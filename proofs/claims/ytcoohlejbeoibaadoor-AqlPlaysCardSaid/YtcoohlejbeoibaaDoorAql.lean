/-
  THE WALKS OF package aql: what each function of a limit gives, and what it leaves. Conditions: the limit's block is whole ('Lim'), its numbers small enough that no sum wraps.
-/
import Derived.Test.YtcoohlejbeoibaaDoorSent
import Derived.Test.YtcoohlejbeoibaaDoorAqlLaw
namespace Go.Proofs.YtcoohlejbeoibaaDoor
open Go.RowKit Aql

/-- The cells of a limit. -/
def limO (st al : Int) (f : Nat → Int) : Array Value := #[.int .i64 st, .int .i64 al, .int .i64 (f 0), .int .i64 (f 1), .int .i64 (f 2), .int .i64 (f 3), .int .i64 (f 4), .int .i64 (f 5), .int .i64 (f 6), .int .i64 (f 7), .int .i64 (f 8), .int .i64 (f 9), .int .i64 (f 10), .int .i64 (f 11), .int .i64 (f 12), .int .i64 (f 13), .int .i64 (f 14), .int .i64 (f 15)]
/-- Block b is a limit. -/
def Lim (b : Nat) (w : World) (st al : Int) (f : Nat → Int) : Prop := w.heap[b]? = some (.cells (limO st al f) 51 (0, 0))

theorem limO_at (st al : Int) (f : Nat → Int) (j : Nat) (h : j < 16) : (limO st al f)[2 + j]? = some (.int .i64 (f j)) :=
  all16 (P := fun j => (limO st al f)[2 + j]? = some (.int .i64 (f j))) rfl rfl rfl rfl rfl rfl rfl rfl rfl rfl rfl rfl rfl rfl rfl rfl j h
theorem limO_set (st al : Int) (f : Nat → Int) (j : Nat) (h : j < 16) (v : Int) : (limO st al f).setIfInBounds (2 + j) (.int .i64 v) = limO st al (upd f j v) :=
  all16 (P := fun j => (limO st al f).setIfInBounds (2 + j) (.int .i64 v) = limO st al (upd f j v)) rfl rfl rfl rfl rfl rfl rfl rfl rfl rfl rfl rfl rfl rfl rfl rfl j h
section
variable {b : Nat} {w : World} {st al : Int} {f : Nat → Int}
theorem Lim.cst (h : Lim b w st al f) : w.cell? ⟨b, 0, none⟩ = some (.int .i64 st) := by rw [cell_of_row w b 0 _ _ _ h]; rfl
theorem Lim.cal (h : Lim b w st al f) : w.cell? ⟨b, 1, none⟩ = some (.int .i64 al) := by rw [cell_of_row w b 1 _ _ _ h]; rfl
theorem Lim.l (h : Lim b w st al f) (j : Nat) (hj : j < 16) : w.cell? ⟨b, 2 + j, none⟩ = some (.int .i64 (f j)) := by rw [cell_of_row w b _ _ _ _ h]; exact limO_at st al f j hj
theorem Lim.fr (h : Lim b w st al f) (j : Nat) : w.frozen? ⟨b, j, none⟩ = false := frozen_of_row w b j _ _ h
theorem Lim.lt (h : Lim b w st al f) : b < w.heap.size := block_lt_of_cell h.cst
theorem Lim.gro {row : Option Nat} {w' : World} (h : Lim b w st al f) (k : Gro row w w') (hr : some b ≠ row) : Lim b w' st al f := (k.block b h.lt hr).trans h
theorem Lim.heap {w' : World} (h : Lim b w st al f) (k : w'.heap = w.heap) : Lim b w' st al f := by unfold Lim; rw [k]; exact h
theorem Lim.set (h : Lim b w st al f) (j : Nat) (hj : j < 16) (v : Int) : Lim b (w.setCell ⟨b, 2 + j, none⟩ (.int .i64 v)) st al (upd f j v) := by
  unfold Lim
  rw [heap_setCell_same w b (2 + j) _ _ _ h, limO_set st al f j hj v]
end

/-! ### The leaves. -/
theorem there_in (a : Int) (w : World) (h1 : 1 ≤ a) (h2 : a ≤ 16) : Calls Tryd.prog 22 #[.int .i64 a] w fun e w' => e = .returned (.bool true) ∧ w = w' := by
  go_enter Tryd.func22, Tryd.ntmps22
  go_wp2
  go_ret
  exact ⟨rfl, rfl⟩
theorem there_out (a : Int) (w : World) (h : a < 1 ∨ 16 < a) : Calls Tryd.prog 22 #[.int .i64 a] w fun e w' => e = .returned (.bool false) ∧ w = w' := by
  rcases h with h | h
  · go_enter Tryd.func22, Tryd.ntmps22
    go_wp2
    go_ret
    exact ⟨rfl, rfl⟩
  · have h' : 1 ≤ a := by omega
    have hd : decide (a ≤ 16) = false := by simp; omega
    go_enter Tryd.func22, Tryd.ntmps22
    go_wp2
    go_ret
    exact ⟨rfl, rfl⟩
theorem fair_in (a : Int) (w : World) (h1 : 0 ≤ a) (h2 : a ≤ 1099511627776) : Calls Tryd.prog 21 #[.int .i64 a] w fun e w' => e = .returned (.bool true) ∧ w = w' := by
  go_enter Tryd.func21, Tryd.ntmps21
  go_wp2
  go_ret
  exact ⟨rfl, rfl⟩
theorem fair_out (a : Int) (w : World) (h : a < 0 ∨ 1099511627776 < a) : Calls Tryd.prog 21 #[.int .i64 a] w fun e w' => e = .returned (.bool false) ∧ w = w' := by
  rcases h with h | h
  · go_enter Tryd.func21, Tryd.ntmps21
    go_wp2
    go_ret
    exact ⟨rfl, rfl⟩
  · have h' : 0 ≤ a := by omega
    have hd : decide (a ≤ 1099511627776) = false := by simp; omega
    go_enter Tryd.func21, Tryd.ntmps21
    go_wp2
    go_ret
    exact ⟨rfl, rfl⟩

/-! ### Of. -/
theorem of_in (b : Nat) (a : Int) (w : World) (st al : Int) (f : Nat → Int) (h : Lim b w st al f) (h1 : 1 ≤ a) (h2 : a ≤ 16) :
    Calls Tryd.prog 9 #[.pointer (some ⟨b, 0, none⟩), .int .i64 a] w fun e w' => e = .returned (.int .i64 (f (a.toNat - 1))) ∧ w = w' := by
  have hl := h.l
  clear h
  go_enter Tryd.func9, Tryd.ntmps9
  go_wp2_with fail
  refine (there_in a w h1 h2).mono ?_
  rintro e w' ⟨rfl, rfl⟩
  go_wp2_with fail
  go_ret
  exact ⟨rfl, rfl⟩
theorem of_out (p : Value) (a : Int) (w : World) (h : a < 1 ∨ 16 < a) :
    Calls Tryd.prog 9 #[p, .int .i64 a] w fun e w' => e = .returned (.int .i64 0) ∧ w = w' := by
  go_enter Tryd.func9, Tryd.ntmps9
  go_wp2_with fail
  refine (there_out a w h).mono ?_
  rintro e w' ⟨rfl, rfl⟩
  go_wp2_with fail
  go_ret
  exact ⟨rfl, rfl⟩

/-! ### All. -/
theorem all_any (b : Nat) (w : World) (st al : Int) (f : Nat → Int) (h : Lim b w st al f) (hb : ∀ j, j < 16 → 0 ≤ f j ∧ f j ≤ 140737488355328) :
    Calls Tryd.prog 12 #[.pointer (some ⟨b, 0, none⟩)] w fun e w' => e = .returned (.int .i64 (sumTo f 16)) ∧ w = w' := by
  have hcs : ∀ (j : Nat) (v : Value), [Value.int .i64 (f 0), .int .i64 (f 1), .int .i64 (f 2), .int .i64 (f 3), .int .i64 (f 4), .int .i64 (f 5), .int .i64 (f 6), .int .i64 (f 7), .int .i64 (f 8), .int .i64 (f 9), .int .i64 (f 10), .int .i64 (f 11), .int .i64 (f 12), .int .i64 (f 13), .int .i64 (f 14), .int .i64 (f 15)][j]? = some v → w.cell? ((⟨b, 2, none⟩ : Addr).add j) = some v := by
    intro j v hv
    have hj : j < 16 := by
      have := (List.getElem?_eq_some_iff.1 hv).1
      simpa using this
    have hadd : (⟨b, 2, none⟩ : Addr).add j = ⟨b, 2 + j, none⟩ := by unfold Addr.add; split <;> simp_all
    rw [hadd, h.l j hj, ← hv]
    exact all16 (P := fun j => some (Value.int .i64 (f j)) = [Value.int .i64 (f 0), .int .i64 (f 1), .int .i64 (f 2), .int .i64 (f 3), .int .i64 (f 4), .int .i64 (f 5), .int .i64 (f 6), .int .i64 (f 7), .int .i64 (f 8), .int .i64 (f 9), .int .i64 (f 10), .int .i64 (f 11), .int .i64 (f 12), .int .i64 (f 13), .int .i64 (f 14), .int .i64 (f 15)][j]?) rfl rfl rfl rfl rfl rfl rfl rfl rfl rfl rfl rfl rfl rfl rfl rfl j hj
  have hidx : Hid (∀ k : Nat, k < 16 → ∀ w : World, (Instr.index 49 (.agg #[Value.int .i64 (f 0), .int .i64 (f 1), .int .i64 (f 2), .int .i64 (f 3), .int .i64 (f 4), .int .i64 (f 5), .int .i64 (f 6), .int .i64 (f 7), .int .i64 (f 8), .int .i64 (f 9), .int .i64 (f 10), .int .i64 (f 11), .int .i64 (f 12), .int .i64 (f 13), .int .i64 (f 14), .int .i64 (f 15)]) (.int .i64 k)).run Tryd.prog w = .ok (.int .i64 (f k)) w) := by
    intro k hk w
    exact all16 (P := fun k => (Instr.index 49 (.agg #[Value.int .i64 (f 0), .int .i64 (f 1), .int .i64 (f 2), .int .i64 (f 3), .int .i64 (f 4), .int .i64 (f 5), .int .i64 (f 6), .int .i64 (f 7), .int .i64 (f 8), .int .i64 (f 9), .int .i64 (f 10), .int .i64 (f 11), .int .i64 (f 12), .int .i64 (f 13), .int .i64 (f 14), .int .i64 (f 15)]) (.int .i64 k)).run Tryd.prog w = .ok (.int .i64 (f k)) w) (by kernel_rfl) (by kernel_rfl) (by kernel_rfl) (by kernel_rfl) (by kernel_rfl) (by kernel_rfl) (by kernel_rfl) (by kernel_rfl) (by kernel_rfl) (by kernel_rfl) (by kernel_rfl) (by kernel_rfl) (by kernel_rfl) (by kernel_rfl) (by kernel_rfl) (by kernel_rfl) k hk
  have hsum : Hid (∀ k : Nat, k ≤ 16 → 0 ≤ sumTo f k ∧ sumTo f k ≤ 2251799813685248) := by
    intro k hk
    have := sumTo_bd f 140737488355328 k (fun j hj => hb j (by omega))
    omega
  have HB := Lib.hid hb
  clear h hb
  go_enter Tryd.func12, Tryd.ntmps12
  go_wp2_with (refine wpList_load_list rfl 49 _ rfl ⟨b, 2, none⟩ rfl _ _ hcs Tryd.underlying49 rfl (by kernel_rfl) ?_; clear hcs)
  go_loop [3, 5, 10] (fun n _ i => ∃ k : Nat, k ≤ 16 ∧ i = .int .i64 k ∧ n = .int .i64 (sumTo f k)) (fun _ _ i => 16 - (intOf i).toNat)
  case atStart => exact ⟨0, Nat.zero_le _, rfl, rfl⟩
  case round =>
    obtain ⟨k, hk, rfl, rfl⟩ := hrel
    obtain ⟨s1, s2⟩ := hsum.out k hk
    by_cases hlt : k < 16
    · have hix := hidx.out k hlt
      obtain ⟨b1, b2⟩ := HB.out k hlt
      go_wp2
      go_round
      case rel => exact ⟨k + 1, by omega, by go_num, rfl⟩
      case measure => simp [intOf]; omega
    · obtain rfl : k = 16 := by omega
      go_wp2
      go_ret
      exact ⟨rfl, rfl⟩

/-! ### May. -/
theorem may_out (p : Value) (a : Int) (w : World) (h : a < 1 ∨ 16 < a) :
    Calls Tryd.prog 10 #[p, .int .i64 a] w fun e w' => e = .returned (.bool false) ∧ w = w' := by
  go_enter Tryd.func10, Tryd.ntmps10
  go_wp2_with fail
  refine (there_out a w h).mono ?_
  rintro e w' ⟨rfl, rfl⟩
  go_wp2_with fail
  go_ret
  exact ⟨rfl, rfl⟩
theorem may_zero (b : Nat) (a : Int) (w : World) (st al : Int) (f : Nat → Int) (h : Lim b w st al f) (h1 : 1 ≤ a) (h2 : a ≤ 16) (h0 : f (a.toNat - 1) = 0) :
    Calls Tryd.prog 10 #[.pointer (some ⟨b, 0, none⟩), .int .i64 a] w fun e w' => e = .returned (.bool true) ∧ ∃ n, w' = w.drewN n := by
  have ho : ∀ n, Calls Tryd.prog 9 #[.pointer (some ⟨b, 0, none⟩), .int .i64 a] (w.drewN n) fun e w' => e = .returned (.int .i64 0) ∧ w' = w.drewN n := fun n =>
    (of_in b a (w.drewN n) st al f (h.heap (by cases n <;> rfl)) h1 h2).mono fun e w' ⟨he, hw⟩ => ⟨by rw [he, h0], hw.symm⟩
  have HO := Lib.hid ho
  clear h ho h0
  go_enter Tryd.func10, Tryd.ntmps10
  go_wp2_with fail
  refine (there_in a w h1 h2).mono ?_
  rintro e w' ⟨rfl, rfl⟩
  go_wp2_with fail
  go_quiet ((go_at_call 9; exact Calls.quiet_of_same (HO.out _)))
  go_wp2_with fail
  go_ret
  exact ⟨rfl, _, rfl⟩
theorem may_full (b : Nat) (a : Int) (w : World) (st al : Int) (f : Nat → Int) (h : Lim b w st al f) (h1 : 1 ≤ a) (h2 : a ≤ 16) (h0 : f (a.toNat - 1) ≠ 0) (h3 : ¬ f (a.toNat - 1) < st) :
    Calls Tryd.prog 10 #[.pointer (some ⟨b, 0, none⟩), .int .i64 a] w fun e w' => e = .returned (.bool false) ∧ ∃ n, w' = w.drewN n := by
  have ho : ∀ n, Calls Tryd.prog 9 #[.pointer (some ⟨b, 0, none⟩), .int .i64 a] (w.drewN n) fun e w' => e = .returned (.int .i64 (f (a.toNat - 1))) ∧ w' = w.drewN n := fun n =>
    (of_in b a (w.drewN n) st al f (h.heap (by cases n <;> rfl)) h1 h2).mono fun e w' ⟨he, hw⟩ => ⟨he, hw.symm⟩
  have HO := Lib.hid ho
  have hst := h.cst
  clear h ho
  generalize f (a.toNat - 1) = x at *
  have e0 : (x == 0) = false := by simpa using h0
  have e1 : decide (x < st) = false := by simpa using h3
  clear h0
  go_enter Tryd.func10, Tryd.ntmps10
  go_wp2_with fail
  refine (there_in a w h1 h2).mono ?_
  rintro e w' ⟨rfl, rfl⟩
  go_wp2_with fail
  go_quiet ((go_at_call 9; exact Calls.quiet_of_same (HO.out _)))
  go_wp2_with fail
  go_ret
  exact ⟨rfl, _, rfl⟩
theorem may_all (b : Nat) (a : Int) (w : World) (st al : Int) (f : Nat → Int) (h : Lim b w st al f) (hb : ∀ j, j < 16 → 0 ≤ f j ∧ f j ≤ 140737488355328) (h1 : 1 ≤ a) (h2 : a ≤ 16) (h0 : f (a.toNat - 1) ≠ 0) (h3 : f (a.toNat - 1) < st) :
    Calls Tryd.prog 10 #[.pointer (some ⟨b, 0, none⟩), .int .i64 a] w fun e w' => e = .returned (.bool (decide (sumTo f 16 < al))) ∧ ∃ n, w' = w.drewN n := by
  have ho : ∀ n, Calls Tryd.prog 9 #[.pointer (some ⟨b, 0, none⟩), .int .i64 a] (w.drewN n) fun e w' => e = .returned (.int .i64 (f (a.toNat - 1))) ∧ w' = w.drewN n := fun n =>
    (of_in b a (w.drewN n) st al f (h.heap (by cases n <;> rfl)) h1 h2).mono fun e w' ⟨he, hw⟩ => ⟨he, hw.symm⟩
  have ha : ∀ n, Calls Tryd.prog 12 #[.pointer (some ⟨b, 0, none⟩)] (w.drewN n) fun e w' => e = .returned (.int .i64 (sumTo f 16)) ∧ w' = w.drewN n := fun n =>
    (all_any b (w.drewN n) st al f (h.heap (by cases n <;> rfl)) hb).mono fun e w' ⟨he, hw⟩ => ⟨he, hw.symm⟩
  have HO := Lib.hid ho
  have HA := Lib.hid ha
  have hst := h.cst
  have hal := h.cal
  clear h ho ha hb
  generalize f (a.toNat - 1) = x at *
  generalize sumTo f 16 = y at *
  have e0 : (x == 0) = false := by simpa using h0
  have e1 : decide (x < st) = true := by simpa using h3
  clear h0
  go_enter Tryd.func10, Tryd.ntmps10
  go_wp2_with fail
  refine (there_in a w h1 h2).mono ?_
  rintro e w' ⟨rfl, rfl⟩
  go_wp2_with fail
  go_quiet ((first | (go_at_call 9; exact Calls.quiet_of_same (HO.out _)) | (go_at_call 12; exact Calls.quiet_of_same (HA.out _))))
  go_wp2_with fail
  go_ret
  exact ⟨rfl, _, rfl⟩
theorem may_in (b : Nat) (a : Int) (w : World) (st al : Int) (f : Nat → Int) (h : Lim b w st al f) (hb : ∀ j, j < 16 → 0 ≤ f j ∧ f j ≤ 140737488355328) (h1 : 1 ≤ a) (h2 : a ≤ 16) :
    Calls Tryd.prog 10 #[.pointer (some ⟨b, 0, none⟩), .int .i64 a] w fun e w' => e = .returned (.bool (mayB st al f (a.toNat - 1))) ∧ ∃ n, w' = w.drewN n := by
  by_cases h0 : f (a.toNat - 1) = 0
  · refine (may_zero b a w st al f h h1 h2 h0).mono fun e w' ⟨he, hw⟩ => ⟨?_, hw⟩
    rw [he]; simp [mayB, h0]
  · by_cases h3 : f (a.toNat - 1) < st
    · refine (may_all b a w st al f h hb h1 h2 h0 h3).mono fun e w' ⟨he, hw⟩ => ⟨?_, hw⟩
      rw [he]; simp [mayB, h0, h3]
    · refine (may_full b a w st al f h h1 h2 h0 h3).mono fun e w' ⟨he, hw⟩ => ⟨?_, hw⟩
      rw [he]; simp [mayB, h0, h3]

/-! ### Add. -/
theorem add_in (b : Nat) (a n : Int) (w : World) (st al : Int) (f : Nat → Int) (h : Lim b w st al f) (h1 : 1 ≤ a) (h2 : a ≤ 16) (hn0 : 0 ≤ n) (hn : n ≤ 1099511627776) (hf0 : 0 ≤ f (a.toNat - 1)) (hf : f (a.toNat - 1) ≤ 140737488355328) :
    Calls Tryd.prog 11 #[.pointer (some ⟨b, 0, none⟩), .int .i64 a, .int .i64 n] w fun e w' => e = .returned .nilIface ∧ Gro (some b) w w' ∧ Lim b w' st al (upd f (a.toNat - 1) (f (a.toNat - 1) + n)) := by
  have hj : (a.toNat - 1) < 16 := by omega
  have hc := h.l _ hj
  have hfr := h.fr (2 + (a.toNat - 1))
  have hset : Hid (∀ v, Lim b (w.setCell ⟨b, 2 + (a.toNat - 1), none⟩ (.int .i64 v)) st al (upd f (a.toNat - 1) v)) := fun v => h.set _ hj v
  clear h
  generalize hx : f (a.toNat - 1) = x at *
  clear hx
  go_enter Tryd.func11, Tryd.ntmps11
  go_wp2_with fail
  refine (there_in a w h1 h2).mono ?_
  rintro e w' ⟨rfl, rfl⟩
  go_wp2_with fail
  refine (fair_in n w hn0 hn).mono ?_
  rintro e w' ⟨rfl, rfl⟩
  go_wp2_with fail
  go_region
  all_goals (try go_wp2)
  all_goals go_ret
  all_goals exact ⟨rfl, ((Gro.refl _ _).setCell _ _).drew, (hset.out _).heap rfl⟩
theorem add_out (p : Value) (a n : Int) (B : Nat) (w : World) (A : Nat → Addr) (hs : Sent B w A) (h : (a < 1 ∨ 16 < a) ∨ n < 0 ∨ 1099511627776 < n) :
    Calls Tryd.prog 11 #[p, .int .i64 a, .int .i64 n] w fun e w' => e = .returned (errV A 3) ∧ w = w' := by
  have hc := hs.c2
  clear hs
  by_cases ha : a < 1 ∨ 16 < a
  · go_enter Tryd.func11, Tryd.ntmps11
    go_wp2_with fail
    refine (there_out a w ha).mono ?_
    rintro e w' ⟨rfl, rfl⟩
    go_wp2_with fail
    go_ret
    exact ⟨rfl, rfl⟩
  · have hn : n < 0 ∨ 1099511627776 < n := by omega
    have h1 : 1 ≤ a := by omega
    have h2 : a ≤ 16 := by omega
    clear ha h
    go_enter Tryd.func11, Tryd.ntmps11
    go_wp2_with fail
    refine (there_in a w h1 h2).mono ?_
    rintro e w' ⟨rfl, rfl⟩
    go_wp2_with fail
    refine (fair_out n w hn).mono ?_
    rintro e w' ⟨rfl, rfl⟩
    go_wp2_with fail
    go_ret
    exact ⟨rfl, rfl⟩

/-! ### New. -/
theorem new_in (st al : Int) (w : World) (h1 : 0 ≤ st) (h2 : st ≤ 1099511627776) (h3 : 0 ≤ al) (h4 : al ≤ 1099511627776) :
    Calls Tryd.prog 8 #[.int .i64 st, .int .i64 al] w fun e w' => e = .returned (.tuple #[.pointer (some ⟨w.heap.size, 0, none⟩), .nilIface]) ∧ Gro none w w' ∧ w'.heap.size = w.heap.size + 1 ∧ Lim w.heap.size w' st al (fun _ => 0) := by
  go_enter Tryd.func8, Tryd.ntmps8
  go_wp2_with fail
  refine (fair_in st w h1 h2).mono ?_
  rintro e w' ⟨rfl, rfl⟩
  go_wp2_with fail
  refine (fair_in al w h3 h4).mono ?_
  rintro e w' ⟨rfl, rfl⟩
  go_wp2_with fail
  go_ret2
  exact ⟨rfl, (Gro.refl _ _).alloc _, by simp, heap_alloc_new _ _⟩
/-! ### The same contracts, by the place of the station, in the form that the laws use. -/
theorem of_at (b : Nat) (a : Int) (j : Nat) (w : World) (st al : Int) (f : Nat → Int) (h : Lim b w st al f) (hj : j < 16) (ha : a = j + 1) :
    Calls Tryd.prog 9 #[.pointer (some ⟨b, 0, none⟩), .int .i64 a] w fun e w' => e = .returned (.int .i64 (f j)) ∧ w = w' := by
  have e : a.toNat - 1 = j := by omega
  have := of_in b a w st al f h (by omega) (by omega)
  rwa [e] at this
theorem may_at (b : Nat) (a : Int) (j : Nat) (w : World) (st al : Int) (f : Nat → Int) (h : Lim b w st al f) (hb : ∀ j, j < 16 → 0 ≤ f j ∧ f j ≤ 140737488355328) (hj : j < 16) (ha : a = j + 1) (r : Bool) (hr : mayB st al f j = r) :
    Calls Tryd.prog 10 #[.pointer (some ⟨b, 0, none⟩), .int .i64 a] w fun e w' => e = .returned (.bool r) ∧ Gro none w w' ∧ Lim b w' st al f := by
  have e : a.toNat - 1 = j := by omega
  have := may_in b a w st al f h hb (by omega) (by omega)
  rw [e, hr] at this
  exact this.mono fun e w' ⟨he, n, hw⟩ => ⟨he, by rw [hw]; exact (Gro.refl _ _).drewN n, by rw [hw]; exact h.heap (by cases n <;> rfl)⟩
theorem add_at (b : Nat) (a : Int) (j : Nat) (n : Int) (w : World) (st al : Int) (f : Nat → Int) (h : Lim b w st al f) (hj : j < 16) (ha : a = j + 1) (hn0 : 0 ≤ n) (hn : n ≤ 1099511627776) (hf : 0 ≤ f j ∧ f j ≤ 140737488355328) :
    Calls Tryd.prog 11 #[.pointer (some ⟨b, 0, none⟩), .int .i64 a, .int .i64 n] w fun e w' => e = .returned .nilIface ∧ Gro (some b) w w' ∧ Lim b w' st al (upd f j (f j + n)) := by
  have e : a.toNat - 1 = j := by omega
  have := add_in b a n w st al f h (by omega) (by omega) hn0 hn (by rw [e]; exact hf.1) (by rw [e]; exact hf.2)
  rwa [e] at this

/-! ### The chapter's examples. -/
theorem first_any (w : World) : Calls Tryd.prog 6 #[] w fun e w' => e = .returned (.bool true) ∧ Gro none w w' := by
  go_enter Tryd.func6, Tryd.ntmps6
  go_wp2_with fail
  refine (new_in 10 20 w (by decide) (by decide) (by decide) (by decide)).mono ?_
  rintro e w1 ⟨rfl, hg1, hsz, hL1⟩
  have hE := Lib.hid hsz
  clear hsz
  go_wp2_with fail
  refine (may_at w.heap.size 1 0 w1 10 20 _ hL1 (fun j _ => by simp) (by decide) (by decide) true (by decide)).mono ?_
  rintro e w2 ⟨rfl, hg2, hL2⟩
  clear hL1
  go_wp2_with fail
  refine (add_at w.heap.size 1 0 10 w2 10 20 _ hL2 (by decide) (by decide) (by decide) (by decide) (by decide)).mono ?_
  rintro e w3 ⟨rfl, hg3, hL3⟩
  clear hL2
  go_wp2_with fail
  refine (may_at w.heap.size 1 0 w3 10 20 _ hL3 (fun j _ => by unfold upd; split <;> simp) (by decide) (by decide) false (by decide)).mono ?_
  rintro e w4 ⟨rfl, hg4, hL4⟩
  clear hL3 hL4
  go_wp2_with fail
  go_ret
  refine ⟨rfl, ?_⟩
  have h12 := (hg1.weak (row := some w.heap.size)).trans (hg2.weak.trans (hg3.trans hg4.weak))
  exact ⟨h12.os, h12.output, h12.size, fun k hk _ => h12.block k hk (by simp; omega)⟩
end Go.Proofs.YtcoohlejbeoibaaDoor
