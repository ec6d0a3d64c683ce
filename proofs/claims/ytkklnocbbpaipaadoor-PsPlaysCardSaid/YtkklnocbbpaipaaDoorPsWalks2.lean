/-
  THE WALKS OF package ps, MORE: a new Power, Add, Del, Trigger, Close, Sent. Conditions: the block is whole ('Pow').
-/
import Derived.Test.YtkklnocbbpaipaaDoorPsWalks
import Derived.StillTailTactics
namespace Go.Proofs.YtkklnocbbpaipaaDoor
open Go.RowKit

set_option maxRecDepth 100000 in
/-- A Power of nobody. -/
def powZ : Obj := .cells #[.bool false, .bool false, .bool false, .bool false, .bool false, .bool false, .bool false, .bool false, .int .i64 0, .int .i64 0, .bool false, .bool false, .bool false, .bool false, .bool false, .bool false, .bool false, .bool false, .int .i64 0, .int .i64 0, .bool false, .bool false, .bool false, .bool false, .bool false, .bool false, .bool false, .bool false, .int .i64 0, .int .i64 0, .bool false, .bool false, .bool false, .bool false, .bool false, .bool false, .bool false, .bool false, .int .i64 0, .int .i64 0, .bool false, .bool false, .bool false, .bool false, .bool false, .bool false, .bool false, .bool false, .int .i64 0, .int .i64 0, .bool false, .bool false, .bool false, .bool false, .bool false, .bool false, .bool false, .bool false, .int .i64 0, .int .i64 0, .bool false, .bool false, .bool false, .bool false, .bool false, .bool false, .bool false, .bool false, .int .i64 0, .int .i64 0, .bool false, .bool false, .bool false, .bool false, .bool false, .bool false, .bool false, .bool false, .int .i64 0, .int .i64 0, .bool false, .bool false, .bool false, .bool false, .bool false, .bool false, .bool false, .bool false, .int .i64 0, .int .i64 0, .bool false, .bool false, .bool false, .bool false, .bool false, .bool false, .bool false, .bool false, .int .i64 0, .int .i64 0, .bool false, .bool false, .bool false, .bool false, .bool false, .bool false, .bool false, .bool false, .int .i64 0, .int .i64 0, .bool false, .bool false, .bool false, .bool false, .bool false, .bool false, .bool false, .bool false, .int .i64 0, .int .i64 0, .bool false, .bool false, .bool false, .bool false, .bool false, .bool false, .bool false, .bool false, .int .i64 0, .int .i64 0, .bool false, .bool false, .bool false, .bool false, .bool false, .bool false, .bool false, .bool false, .int .i64 0, .int .i64 0, .bool false, .bool false, .bool false, .bool false, .bool false, .bool false, .bool false, .bool false, .int .i64 0, .int .i64 0, .bool false, .bool false, .bool false, .bool false, .bool false, .bool false, .bool false, .bool false, .int .i64 0, .int .i64 0] 29
theorem alloc_run (w : World) : (Instr.alloc 29 true (.tuple #[])).run Tryd.prog w = .ok (.pointer (some ⟨w.heap.size, 0, none⟩)) (w.alloc powZ) := by kernel_rfl
set_option maxRecDepth 100000 in
theorem pow_new (w : World) : Pow w.heap.size (w.alloc powZ) (fun _ => One.zero) :=
  ⟨_, heap_alloc_new w powZ, all16 (P := fun j => ∀ c, c < 10 → (#[.bool false, .bool false, .bool false, .bool false, .bool false, .bool false, .bool false, .bool false, .int .i64 0, .int .i64 0, .bool false, .bool false, .bool false, .bool false, .bool false, .bool false, .bool false, .bool false, .int .i64 0, .int .i64 0, .bool false, .bool false, .bool false, .bool false, .bool false, .bool false, .bool false, .bool false, .int .i64 0, .int .i64 0, .bool false, .bool false, .bool false, .bool false, .bool false, .bool false, .bool false, .bool false, .int .i64 0, .int .i64 0, .bool false, .bool false, .bool false, .bool false, .bool false, .bool false, .bool false, .bool false, .int .i64 0, .int .i64 0, .bool false, .bool false, .bool false, .bool false, .bool false, .bool false, .bool false, .bool false, .int .i64 0, .int .i64 0, .bool false, .bool false, .bool false, .bool false, .bool false, .bool false, .bool false, .bool false, .int .i64 0, .int .i64 0, .bool false, .bool false, .bool false, .bool false, .bool false, .bool false, .bool false, .bool false, .int .i64 0, .int .i64 0, .bool false, .bool false, .bool false, .bool false, .bool false, .bool false, .bool false, .bool false, .int .i64 0, .int .i64 0, .bool false, .bool false, .bool false, .bool false, .bool false, .bool false, .bool false, .bool false, .int .i64 0, .int .i64 0, .bool false, .bool false, .bool false, .bool false, .bool false, .bool false, .bool false, .bool false, .int .i64 0, .int .i64 0, .bool false, .bool false, .bool false, .bool false, .bool false, .bool false, .bool false, .bool false, .int .i64 0, .int .i64 0, .bool false, .bool false, .bool false, .bool false, .bool false, .bool false, .bool false, .bool false, .int .i64 0, .int .i64 0, .bool false, .bool false, .bool false, .bool false, .bool false, .bool false, .bool false, .bool false, .int .i64 0, .int .i64 0, .bool false, .bool false, .bool false, .bool false, .bool false, .bool false, .bool false, .bool false, .int .i64 0, .int .i64 0, .bool false, .bool false, .bool false, .bool false, .bool false, .bool false, .bool false, .bool false, .int .i64 0, .int .i64 0] : Array Value)[10 * j + c]? = some (cellOf One.zero c))
    (cells10 rfl rfl rfl rfl rfl rfl rfl rfl rfl rfl)
    (cells10 rfl rfl rfl rfl rfl rfl rfl rfl rfl rfl)
    (cells10 rfl rfl rfl rfl rfl rfl rfl rfl rfl rfl)
    (cells10 rfl rfl rfl rfl rfl rfl rfl rfl rfl rfl)
    (cells10 rfl rfl rfl rfl rfl rfl rfl rfl rfl rfl)
    (cells10 rfl rfl rfl rfl rfl rfl rfl rfl rfl rfl)
    (cells10 rfl rfl rfl rfl rfl rfl rfl rfl rfl rfl)
    (cells10 rfl rfl rfl rfl rfl rfl rfl rfl rfl rfl)
    (cells10 rfl rfl rfl rfl rfl rfl rfl rfl rfl rfl)
    (cells10 rfl rfl rfl rfl rfl rfl rfl rfl rfl rfl)
    (cells10 rfl rfl rfl rfl rfl rfl rfl rfl rfl rfl)
    (cells10 rfl rfl rfl rfl rfl rfl rfl rfl rfl rfl)
    (cells10 rfl rfl rfl rfl rfl rfl rfl rfl rfl rfl)
    (cells10 rfl rfl rfl rfl rfl rfl rfl rfl rfl rfl)
    (cells10 rfl rfl rfl rfl rfl rfl rfl rfl rfl rfl)
    (cells10 rfl rfl rfl rfl rfl rfl rfl rfl rfl rfl)⟩

theorem add_in (b : Nat) (a most : Int) (u0 u1 u2 u3 : Bool) (j : Nat) (w : World) (P : Nat → One) (h : Pow b w P) (hj : j < 16) (ha : a = j + 1) (ht : (P j).th = false) (hm0 : 0 ≤ most) (hm : most ≤ 8) :
    Calls Tryd.prog 8 #[.pointer (some ⟨b, 0, none⟩), .int .i64 a, .agg #[.bool u0, .bool u1, .bool u2, .bool u3], .int .i64 most] w fun e w' =>
      e = .returned .nilIface ∧ Gro (some b) w w' ∧ Pow b w' (updP P j ⟨true, false, false, false, u0, u1, u2, u3, most, 0⟩) := by
  have hU : Pow b (w.alloc (.cells #[.bool u0, .bool u1, .bool u2, .bool u3] 23)) P := h.gro ((Gro.refl none _).alloc _) (by simp)
  have hof := Lib.hid (of_gone b a j _ P hU hj ha ht)
  have hP := Lib.hid (h.all j hj ⟨true, false, false, false, u0, u1, u2, u3, most, 0⟩)
  have h1 : 1 ≤ a := by omega
  have h2 : a ≤ 16 := by omega
  have hblt := h.lt
  have hten : ∀ c, c < 10 → ∃ v, w.cell? ⟨b, (a.toNat - 1) * 10 + c, none⟩ = some v := fun c hc => ⟨_, by rw [show (a.toNat - 1) * 10 + c = 10 * j + c from by omega]; exact h.cell j hj c hc⟩
  obtain ⟨v0, c0⟩ := hten 0 (by decide)
  obtain ⟨v1, c1⟩ := hten 1 (by decide)
  obtain ⟨v2, c2⟩ := hten 2 (by decide)
  obtain ⟨v3, c3⟩ := hten 3 (by decide)
  obtain ⟨v4, c4⟩ := hten 4 (by decide)
  obtain ⟨v5, c5⟩ := hten 5 (by decide)
  obtain ⟨v6, c6⟩ := hten 6 (by decide)
  obtain ⟨v7, c7⟩ := hten 7 (by decide)
  obtain ⟨v8, c8⟩ := hten 8 (by decide)
  obtain ⟨v9, c9⟩ := hten 9 (by decide)
  have fr := h.fr
  have he : Hid ((a.toNat - 1) * 10 = 10 * j) := by unfold Hid; omega
  clear h ha ht hj hU hten
  simp only [Nat.add_zero] at c0
  go_enter Tryd.func8, Tryd.ntmps8
  go_wp2_with fail
  refine hof.out.mono ?_
  rintro e w' ⟨rfl, rfl⟩
  go_wp2_with fail
  go_region
  all_goals (try go_wp2)
  all_goals go_ret
  all_goals
    rw [he.out]
    refine ⟨rfl, ?_, (hP.out.alloc _).drew⟩
    exact ((((((((((((Gro.refl _ _).setCell _ _).setCell _ _).setCell _ _).setCell _ _).setCell _ _).setCell _ _).setCell _ _).setCell _ _).setCell _ _).setCell _ _).alloc _).drew
theorem add_range (p : Value) (u : Array Value) (a most : Int) (v : Value) (w : World) (hu : u.size = 4) (h : (a < 1 ∨ 16 < a) ∨ most < 0 ∨ 8 < most) (hv : w.cell? ⟨0, 0, none⟩ = some v) (hlt : 0 < w.heap.size) :
    Calls Tryd.prog 8 #[p, .int .i64 a, .agg u, .int .i64 most] w fun e w' => e = .returned v ∧ Gro none w w' := by
  have hd : (decide (a < 1) || decide (16 < a) || decide (most < 0) || decide (8 < most)) = true := by simp; omega
  have HD := Lib.hid hd
  clear hd
  by_cases h1 : a < 1
  · clear h
    go_enter Tryd.func8, Tryd.ntmps8
    go_wp2_with fail
    go_ret
    exact ⟨rfl, (Gro.refl _ _).alloc _⟩
  · by_cases h2 : 16 < a
    · clear h
      go_enter Tryd.func8, Tryd.ntmps8
      go_wp2_with fail
      go_ret
      exact ⟨rfl, (Gro.refl _ _).alloc _⟩
    · by_cases h3 : most < 0
      · clear h
        go_enter Tryd.func8, Tryd.ntmps8
        go_wp2_with fail
        go_ret
        exact ⟨rfl, (Gro.refl _ _).alloc _⟩
      · have h4 : 8 < most := by omega
        clear h
        go_enter Tryd.func8, Tryd.ntmps8
        go_wp2_with fail
        go_ret
        exact ⟨rfl, (Gro.refl _ _).alloc _⟩
theorem del_there (b : Nat) (a : Int) (j : Nat) (w : World) (P : Nat → One) (h : Pow b w P) (hj : j < 16) (ha : a = j + 1) (ht : (P j).th = true) :
    Calls Tryd.prog 12 #[.pointer (some ⟨b, 0, none⟩), .int .i64 a] w fun e w' => e = .returned (.tuple #[]) ∧ Gro (some b) w w' ∧ Pow b w' (updP P j One.zero) := by
  have hof := Lib.hid (of_there b a j w P h hj ha ht)
  have hP := Lib.hid (h.all j hj One.zero)
  have c0 := h.cell j hj 0 (by decide)
  have c1 := h.cell j hj 1 (by decide)
  have c2 := h.cell j hj 2 (by decide)
  have c3 := h.cell j hj 3 (by decide)
  have c4 := h.cell j hj 4 (by decide)
  have c5 := h.cell j hj 5 (by decide)
  have c6 := h.cell j hj 6 (by decide)
  have c7 := h.cell j hj 7 (by decide)
  have c8 := h.cell j hj 8 (by decide)
  have c9 := h.cell j hj 9 (by decide)
  have fr := h.fr
  simp only [Nat.add_zero] at c0
  clear h ha ht hj
  generalize 10 * j = off at *
  go_enter Tryd.func12, Tryd.ntmps12
  go_wp2_with fail
  refine hof.out.mono ?_
  rintro e w' ⟨rfl, rfl⟩
  go_wp2_with fail
  go_end0
  exact ⟨rfl, ((((((((((Gro.refl _ _).setCell _ _).setCell _ _).setCell _ _).setCell _ _).setCell _ _).setCell _ _).setCell _ _).setCell _ _).setCell _ _).setCell _ _, hP.out⟩
theorem del_nil (b : Nat) (a : Int) (w : World) (P : Nat → One) (h : Pow b w P) (hg : Gone P a) :
    Calls Tryd.prog 12 #[.pointer (some ⟨b, 0, none⟩), .int .i64 a] w fun e w' => e = .returned (.tuple #[]) ∧ w = w' := by
  have hof := Lib.hid (of_nil b a w P h hg)
  clear h hg
  go_enter Tryd.func12, Tryd.ntmps12
  go_wp2_with fail
  refine hof.out.mono ?_
  rintro e w' ⟨rfl, rfl⟩
  go_wp2_with fail
  go_end0
  exact ⟨rfl, rfl⟩

/-- The chapter's examples. -/
theorem first_any (w : World) : Calls Tryd.prog 7 #[] w fun e w' => e = .returned (.bool true) ∧ Gro none w w' := by
  go_enter Tryd.func7, Tryd.ntmps7
  go_wp2_with (refine wpList_alloc_as rfl 29 rfl powZ (alloc_run _) ?_)
  have hP1 := pow_new w
  have hg1 : Gro none w (w.alloc powZ) := (Gro.refl _ _).alloc _
  generalize w.alloc powZ = w1 at *
  refine (add_in w.heap.size 1 0 false false false false 0 w1 _ hP1 (by decide) (by decide) rfl (by decide) (by decide)).mono ?_
  rintro e w2 ⟨rfl, hg2, hP2⟩
  clear hP1
  go_wp2_with fail
  refine (doze_there w.heap.size 1 true 0 w2 _ hP2 (by decide) (by decide) rfl).mono ?_
  rintro e w3 ⟨rfl, hg3, hP3⟩
  clear hP2
  go_wp2_with fail
  refine (may_there w.heap.size 1 0 0 w3 _ hP3 (by decide) (by decide) rfl (by decide) (by decide)).mono ?_
  rintro e w' ⟨rfl, rfl⟩
  have hm1 : mayO (updP (updP (fun _ => One.zero) 0 ⟨true, false, false, false, false, false, false, false, 0, 0⟩) 0 (dozeO (updP (fun _ => One.zero) 0 ⟨true, false, false, false, false, false, false, false, 0, 0⟩ 0) true) 0) 0 = false := by decide
  go_wp2_with fail
  refine (asleep_there w.heap.size 1 0 w3 _ hP3 (by decide) (by decide) rfl).mono ?_
  rintro e w' ⟨rfl, rfl⟩
  have hm2 : (updP (updP (fun _ => One.zero) 0 ⟨true, false, false, false, false, false, false, false, 0, 0⟩) 0 (dozeO (updP (fun _ => One.zero) 0 ⟨true, false, false, false, false, false, false, false, 0, 0⟩ 0) true) 0).sl = true := by decide
  go_wp2_with fail
  go_ret
  refine ⟨by simp [hm2], ?_⟩
  have h12 := (hg1.weak (row := some w.heap.size)).trans (hg2.trans hg3)
  exact ⟨h12.os, h12.output, h12.size, fun k hk _ => h12.block k hk (by simp; omega)⟩
end Go.Proofs.YtkklnocbbpaipaaDoor
