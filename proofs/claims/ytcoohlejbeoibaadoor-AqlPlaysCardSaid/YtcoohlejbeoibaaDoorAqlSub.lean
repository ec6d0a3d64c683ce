/-
  THE WALKS OF package aql, MORE: Sub, Clear, Clone. Conditions: the limit's block is whole ('Lim'), its numbers small enough that no sum wraps.
-/
import Derived.Test.YtcoohlejbeoibaaDoorAql
namespace Go.Proofs.YtcoohlejbeoibaaDoor
open Go.RowKit Aql

theorem sub_in (b : Nat) (a n : Int) (w : World) (st al : Int) (f : Nat → Int) (h : Lim b w st al f) (h1 : 1 ≤ a) (h2 : a ≤ 16) (hn0 : 0 ≤ n) (hn : n ≤ 1099511627776) (hf0 : n ≤ f (a.toNat - 1)) (hf : f (a.toNat - 1) ≤ 140737488355328) :
    Calls Tryd.prog 14 #[.pointer (some ⟨b, 0, none⟩), .int .i64 a, .int .i64 n] w fun e w' => e = .returned .nilIface ∧ Gro (some b) w w' ∧ Lim b w' st al (upd f (a.toNat - 1) (f (a.toNat - 1) - n)) := by
  have hj : (a.toNat - 1) < 16 := by omega
  have hc := h.l _ hj
  have hfr := h.fr (2 + (a.toNat - 1))
  have hset : Hid (∀ v, Lim b (w.setCell ⟨b, 2 + (a.toNat - 1), none⟩ (.int .i64 v)) st al (upd f (a.toNat - 1) v)) := fun v => h.set _ hj v
  have hof := Lib.hid (of_in b a w st al f h h1 h2)
  clear h
  generalize hx : f (a.toNat - 1) = x at *
  clear hx
  go_enter Tryd.func14, Tryd.ntmps14
  go_wp2_with fail
  refine (there_in a w h1 h2).mono ?_
  rintro e w' ⟨rfl, rfl⟩
  go_wp2_with fail
  refine (fair_in n w hn0 hn).mono ?_
  rintro e w' ⟨rfl, rfl⟩
  go_wp2_with fail
  refine hof.out.mono ?_
  rintro e w' ⟨rfl, rfl⟩
  go_wp2_with fail
  go_region
  all_goals (try go_wp2)
  all_goals go_ret
  all_goals exact ⟨rfl, ((Gro.refl _ _).setCell _ _).drew, (hset.out _).heap rfl⟩
theorem sub_low (b : Nat) (a n : Int) (B : Nat) (w : World) (A : Nat → Addr) (hs : Sent B w A) (st al : Int) (f : Nat → Int) (h : Lim b w st al f) (h1 : 1 ≤ a) (h2 : a ≤ 16) (hn0 : 0 ≤ n) (hn : n ≤ 1099511627776) (hf0 : f (a.toNat - 1) < n) :
    Calls Tryd.prog 14 #[.pointer (some ⟨b, 0, none⟩), .int .i64 a, .int .i64 n] w fun e w' => e = .returned (errV A 10) ∧ w = w' := by
  have hc := hs.c9
  have hof := Lib.hid (of_in b a w st al f h h1 h2)
  clear h hs
  generalize hx : f (a.toNat - 1) = x at *
  clear hx
  go_enter Tryd.func14, Tryd.ntmps14
  go_wp2_with fail
  refine (there_in a w h1 h2).mono ?_
  rintro e w' ⟨rfl, rfl⟩
  go_wp2_with fail
  refine (fair_in n w hn0 hn).mono ?_
  rintro e w' ⟨rfl, rfl⟩
  go_wp2_with fail
  refine hof.out.mono ?_
  rintro e w' ⟨rfl, rfl⟩
  go_wp2_with fail
  go_ret
  exact ⟨rfl, rfl⟩
theorem sub_out (p : Value) (a n : Int) (B : Nat) (w : World) (A : Nat → Addr) (hs : Sent B w A) (h : (a < 1 ∨ 16 < a) ∨ n < 0 ∨ 1099511627776 < n) :
    Calls Tryd.prog 14 #[p, .int .i64 a, .int .i64 n] w fun e w' => e = .returned (errV A 3) ∧ w = w' := by
  have hc := hs.c2
  clear hs
  by_cases ha : a < 1 ∨ 16 < a
  · go_enter Tryd.func14, Tryd.ntmps14
    go_wp2_with fail
    refine (there_out a w ha).mono ?_
    rintro e w' ⟨rfl, rfl⟩
    go_wp2_with fail
    go_ret
    exact ⟨rfl, rfl⟩
  · have hn : n < 0 ∨ 1099511627776 < n := by omega
    have h1 : 1 ≤ a := by omega
    have h2 : a ≤ 16 := by omega
    clear ha h
    go_enter Tryd.func14, Tryd.ntmps14
    go_wp2_with fail
    refine (there_in a w h1 h2).mono ?_
    rintro e w' ⟨rfl, rfl⟩
    go_wp2_with fail
    refine (fair_out n w hn).mono ?_
    rintro e w' ⟨rfl, rfl⟩
    go_wp2_with fail
    go_ret
    exact ⟨rfl, rfl⟩

theorem clear_in (b : Nat) (a : Int) (w : World) (st al : Int) (f : Nat → Int) (h : Lim b w st al f) (h1 : 1 ≤ a) (h2 : a ≤ 16) :
    Calls Tryd.prog 15 #[.pointer (some ⟨b, 0, none⟩), .int .i64 a] w fun e w' => e = .returned (.tuple #[]) ∧ Gro (some b) w w' ∧ Lim b w' st al (upd f (a.toNat - 1) 0) := by
  have hj : (a.toNat - 1) < 16 := by omega
  have hc := h.l _ hj
  have hfr := h.fr (2 + (a.toNat - 1))
  have hset : Hid (∀ v, Lim b (w.setCell ⟨b, 2 + (a.toNat - 1), none⟩ (.int .i64 v)) st al (upd f (a.toNat - 1) v)) := fun v => h.set _ hj v
  clear h
  go_enter Tryd.func15, Tryd.ntmps15
  go_wp2_with fail
  refine (there_in a w h1 h2).mono ?_
  rintro e w' ⟨rfl, rfl⟩
  go_wp2_with fail
  go_end0
  exact ⟨rfl, ((Gro.refl _ _).setCell _ _), (hset.out _)⟩
theorem clear_out (p : Value) (a : Int) (w : World) (h : a < 1 ∨ 16 < a) :
    Calls Tryd.prog 15 #[p, .int .i64 a] w fun e w' => e = .returned (.tuple #[]) ∧ w = w' := by
  go_enter Tryd.func15, Tryd.ntmps15
  go_wp2_with fail
  refine (there_out a w h).mono ?_
  rintro e w' ⟨rfl, rfl⟩
  go_wp2_with fail
  go_end0
  exact ⟨rfl, rfl⟩

theorem clone_any (b : Nat) (w : World) (st al : Int) (f : Nat → Int) (h : Lim b w st al f) :
    Calls Tryd.prog 16 #[.pointer (some ⟨b, 0, none⟩)] w fun e w' => e = .returned (.pointer (some ⟨w.heap.size, 0, none⟩)) ∧ Gro none w w' ∧ w'.heap.size = w.heap.size + 1 ∧ Lim w.heap.size w' st al f := by
  have hb := Lib.hid h
  have hlt := h.lt
  unfold Lim limO at h
  go_enter Tryd.func16, Tryd.ntmps16
  go_wp2_with (first | (refine wpList_load_row rfl 51 _ rfl b rfl _ _ _ _ h Tryd.underlying51 rfl (by kernel_rfl) ?_; clear h) | fail)
  go_ret
  exact ⟨rfl, (Gro.refl _ _).alloc _, by simp, heap_alloc_new _ _⟩

theorem new_out (st al : Int) (B : Nat) (w : World) (A : Nat → Addr) (hs : Sent B w A) (h : (st < 0 ∨ 1099511627776 < st) ∨ al < 0 ∨ 1099511627776 < al) :
    Calls Tryd.prog 8 #[.int .i64 st, .int .i64 al] w fun e w' => e = .returned (.tuple #[.pointer none, errV A 3]) ∧ Gro none w w' := by
  have hc := hs.c2
  clear hs
  by_cases ha : st < 0 ∨ 1099511627776 < st
  · have hfo := Lib.hid (fair_out st w ha)
    clear h ha
    go_enter Tryd.func8, Tryd.ntmps8
    go_wp2_with fail
    refine hfo.out.mono ?_
    rintro e w' ⟨rfl, rfl⟩
    go_wp2_with fail
    go_region
    all_goals (try go_wp2)
    all_goals go_ret2
    all_goals exact ⟨rfl, (Gro.refl _ _).drew⟩
  · have hn : al < 0 ∨ 1099511627776 < al := by omega
    have hfi := Lib.hid (fair_in st w (by omega) (by omega))
    have hfo := Lib.hid (fair_out al w hn)
    clear ha h hn
    go_enter Tryd.func8, Tryd.ntmps8
    go_wp2_with fail
    refine hfi.out.mono ?_
    rintro e w' ⟨rfl, rfl⟩
    go_wp2_with fail
    refine hfo.out.mono ?_
    rintro e w' ⟨rfl, rfl⟩
    go_wp2_with fail
    go_region
    all_goals (try go_wp2)
    all_goals go_ret2
    all_goals exact ⟨rfl, (Gro.refl _ _).drew⟩
end Go.Proofs.YtcoohlejbeoibaaDoor
