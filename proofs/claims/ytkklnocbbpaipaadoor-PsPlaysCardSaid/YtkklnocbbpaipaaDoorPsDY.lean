/-
  THE DOCUMENT's Add; the rest of the code's side (Add of one that is there, Sent of none); Clone; new ones. Conditions: the blocks are whole ('Pow', 'DPow').
-/
import Derived.Test.YtkklnocbbpaipaaDoorPsDX
namespace Go.Proofs.YtkklnocbbpaipaaDoor
open Go.RowKit

theorem dadd_range (p : Value) (a most : Int) (u0 u1 u2 u3 : Bool) (w : World) (h : (a < 1 ∨ 16 < a) ∨ most < 0 ∨ 8 < most) :
    Calls Tryd.prog 21 #[p, .int .i64 a, .agg #[.bool u0, .bool u1, .bool u2, .bool u3], .int .i64 most] w fun e w' => e = .returned (.int .i64 103) ∧ Gro none w w' := by
  have HA := Lib.hid (fun w => daid_any a w)
  by_cases hA : 1 ≤ a ∧ a ≤ 16
  · rw [decide_eq_true hA] at HA
    by_cases h3 : most < 0
    · clear h hA
      go_enter Tryd.func21, Tryd.ntmps21
      go_wp2_with fail
      refine (HA.out _).mono ?_
      rintro e w' ⟨rfl, rfl⟩
      go_wp2_with fail
      go_ret
      exact ⟨rfl, (Gro.refl _ _).alloc _⟩
    · have h4 : 8 < most := by omega
      clear h hA
      go_enter Tryd.func21, Tryd.ntmps21
      go_wp2_with fail
      refine (HA.out _).mono ?_
      rintro e w' ⟨rfl, rfl⟩
      go_wp2_with fail
      go_ret
      exact ⟨rfl, (Gro.refl _ _).alloc _⟩
  · rw [decide_eq_false hA] at HA
    clear h hA
    go_enter Tryd.func21, Tryd.ntmps21
    go_wp2_with fail
    refine (HA.out _).mono ?_
    rintro e w' ⟨rfl, rfl⟩
    go_wp2_with fail
    go_ret
    exact ⟨rfl, (Gro.refl _ _).alloc _⟩
theorem dadd_twice (b : Nat) (a most : Int) (u0 u1 u2 u3 : Bool) (j : Nat) (w : World) (P : Nat → One) (h : DPow b w P) (hj : j < 16) (ha : a = j + 1) (ht : (P j).th = true) (hm0 : 0 ≤ most) (hm : most ≤ 8) :
    Calls Tryd.prog 21 #[.pointer (some ⟨b, 0, none⟩), .int .i64 a, .agg #[.bool u0, .bool u1, .bool u2, .bool u3], .int .i64 most] w fun e w' => e = .returned (.int .i64 108) ∧ Gro none w w' := by
  have h1 : 1 ≤ a := by omega
  have h2 : a ≤ 16 := by omega
  have h3 : a < 17 := by omega
  have h4 : 0 ≤ a := by omega
  have HA := Lib.hid (fun w => daid_any a w)
  rw [decide_eq_true ⟨h1, h2⟩] at HA
  have hU : DPow b (w.alloc (.cells #[.bool u0, .bool u1, .bool u2, .bool u3] 23)) P := h.gro ((Gro.refl none _).alloc _) (by simp)
  have c0 := (hU.at j hj a ha).c0
  rw [ht] at c0
  have hg := (Gro.refl none w).alloc (.cells #[.bool u0, .bool u1, .bool u2, .bool u3] 23)
  have HG := Lib.hid hg
  clear h ha ht hj hU hg
  go_enter Tryd.func21, Tryd.ntmps21
  go_wp2_with fail
  refine (HA.out _).mono ?_
  rintro e w' ⟨rfl, rfl⟩
  go_wp2_with fail
  go_ret
  exact ⟨rfl, HG.out⟩
theorem dadd_in (b : Nat) (a most : Int) (u0 u1 u2 u3 : Bool) (j : Nat) (w : World) (P : Nat → One) (h : DPow b w P) (hj : j < 16) (ha : a = j + 1) (ht : (P j).th = false) (hm0 : 0 ≤ most) (hm : most ≤ 8) :
    Calls Tryd.prog 21 #[.pointer (some ⟨b, 0, none⟩), .int .i64 a, .agg #[.bool u0, .bool u1, .bool u2, .bool u3], .int .i64 most] w fun e w' => e = .returned (.int .i64 0) ∧ Gro (some b) w w' ∧ DPow b w' (updP P j ⟨true, false, false, false, u0, u1, u2, u3, most, 0⟩) := by
  have h1 : 1 ≤ a := by omega
  have h2 : a ≤ 16 := by omega
  have h3 : a < 17 := by omega
  have h4 : 0 ≤ a := by omega
  have HA := Lib.hid (fun w => daid_any a w)
  rw [decide_eq_true ⟨h1, h2⟩] at HA
  have hblt := h.lt
  have hP := Lib.hid (h.all j hj ⟨true, false, false, false, u0, u1, u2, u3, most, 0⟩)
  have c0 := h.cell j hj 0 (by decide)
  have c1 := h.cell j hj 1 (by decide)
  have c2 := h.cell j hj 2 (by decide)
  have c3 := h.cell j hj 3 (by decide)
  have c4 := h.cell j hj 4 (by decide)
  have c5 := h.cell j hj 5 (by decide)
  have c6 := h.cell j hj 6 (by decide)
  have c7 := h.cell j hj 7 (by decide)
  have c8 := h.cell j hj 8 (by decide)
  have c9 := h.cell j hj 9 (by decide)
  have fr := h.fr
  have e1 : 10 * (j + 1) = a.toNat * 10 := by omega
  rw [e1] at c0 c1 c2 c3 c4 c5 c6 c7 c8 c9 hP
  simp only [cellOf] at c0 c1 c2 c3 c4 c5 c6 c7 c8 c9
  rw [ht] at c0
  clear e1
  simp only [Nat.add_zero] at c0
  clear h ha ht hj
  go_enter Tryd.func21, Tryd.ntmps21
  go_wp2_with fail
  refine (HA.out _).mono ?_
  rintro e w' ⟨rfl, rfl⟩
  go_wp2_with fail
  go_region
  all_goals (try go_wp2)
  all_goals go_ret
  all_goals
    refine ⟨rfl, ?_, (hP.out.alloc _).drew⟩
    exact ((((((((((((Gro.refl _ _).setCell _ _).setCell _ _).setCell _ _).setCell _ _).setCell _ _).setCell _ _).setCell _ _).setCell _ _).setCell _ _).setCell _ _).alloc _).drew
theorem add_twice (b : Nat) (a most : Int) (u0 u1 u2 u3 : Bool) (v : Value) (j : Nat) (w : World) (P : Nat → One) (h : Pow b w P) (hj : j < 16) (ha : a = j + 1) (ht : (P j).th = true) (hm0 : 0 ≤ most) (hm : most ≤ 8) (hv : w.cell? ⟨1, 0, none⟩ = some v) (hlt : 1 < w.heap.size) :
    Calls Tryd.prog 8 #[.pointer (some ⟨b, 0, none⟩), .int .i64 a, .agg #[.bool u0, .bool u1, .bool u2, .bool u3], .int .i64 most] w fun e w' => e = .returned v ∧ Gro none w w' := by
  have h1 : 1 ≤ a := by omega
  have h2 : a ≤ 16 := by omega
  have hU : Pow b (w.alloc (.cells #[.bool u0, .bool u1, .bool u2, .bool u3] 23)) P := h.gro ((Gro.refl none _).alloc _) (by simp)
  have hof := Lib.hid (of_there b a j _ P hU hj ha ht)
  have hg := (Gro.refl none w).alloc (.cells #[.bool u0, .bool u1, .bool u2, .bool u3] 23)
  have HG := Lib.hid hg
  clear h ha ht hj hU hg
  go_enter Tryd.func8, Tryd.ntmps8
  go_wp2_with fail
  refine hof.out.mono ?_
  rintro e w' ⟨rfl, rfl⟩
  go_wp2_with fail
  go_ret
  exact ⟨rfl, HG.out⟩
theorem sent_nil (b : Nat) (a ac : Int) (more : Bool) (v : Value) (w : World) (P : Nat → One) (h : Pow b w P) (hg : Gone P a) (hv : w.cell? ⟨2, 0, none⟩ = some v) :
    Calls Tryd.prog 16 #[.pointer (some ⟨b, 0, none⟩), .int .i64 a, .int .i64 ac, .bool more] w fun e w' => e = .returned (.tuple #[.bool false, v]) ∧ Gro none w w' := by
  have hof := Lib.hid (of_nil b a w P h hg)
  clear h hg
  go_enter Tryd.func16, Tryd.ntmps16
  go_wp2_with fail
  refine hof.out.mono ?_
  rintro e w' ⟨rfl, rfl⟩
  go_wp2_with fail
  go_region
  all_goals (try go_wp2)
  all_goals go_ret2
  all_goals exact ⟨rfl, (Gro.refl _ _).drew⟩
theorem sent_far (b : Nat) (a ac : Int) (more : Bool) (v : Value) (j : Nat) (w : World) (P : Nat → One) (h : Pow b w P) (hj : j < 16) (ha : a = j + 1) (ht : (P j).th = true) (h0 : ac < 0 ∨ 4 ≤ ac) (hv : w.cell? ⟨0, 0, none⟩ = some v) :
    Calls Tryd.prog 16 #[.pointer (some ⟨b, 0, none⟩), .int .i64 a, .int .i64 ac, .bool more] w fun e w' => e = .returned (.tuple #[.bool false, v]) ∧ Gro none w w' := by
  have hof := Lib.hid (of_there b a j w P h hj ha ht)
  have hfa := Lib.hid (fair_out ac w h0)
  clear h ha ht hj h0
  go_enter Tryd.func16, Tryd.ntmps16
  go_wp2_with fail
  refine hof.out.mono ?_
  rintro e w' ⟨rfl, rfl⟩
  go_wp2_with fail
  refine hfa.out.mono ?_
  rintro e w' ⟨rfl, rfl⟩
  go_wp2_with fail
  go_region
  all_goals (try go_wp2)
  all_goals go_ret2
  all_goals exact ⟨rfl, (Gro.refl _ _).drew⟩

/-- The cells of a power, in their order: what a copy holds. -/
def powL (P : Nat → One) : List Value := (List.range 160).map fun i => cellOf (P (i / 10)) (i % 10)
theorem powL_length (P : Nat → One) : (powL P).length = 160 := by simp [powL]
theorem powL_at (P : Nat → One) (i : Nat) (hi : i < 160) : (powL P)[i]? = some (cellOf (P (i / 10)) (i % 10)) := by
  simp [powL, List.getElem?_range hi]
theorem Pow.whole {b : Nat} {w : World} {P : Nat → One} (h : Pow b w P) : w.rangeAt b 0 (powL P) := by
  intro i v hv
  have hi : i < 160 := by
    have := (List.getElem?_eq_some_iff.1 hv).1
    rwa [powL_length] at this
  rw [powL_at P i hi] at hv
  rw [← hv, ← h.cell (i / 10) (by omega) (i % 10) (by omega), Nat.div_add_mod, Nat.zero_add]
theorem cellOf_one (o : One) (c : Nat) (hc : c < 10) : (cellOf o c).oneCell' = true := by
  rcases (show c = 0 ∨ c = 1 ∨ c = 2 ∨ c = 3 ∨ c = 4 ∨ c = 5 ∨ c = 6 ∨ c = 7 ∨ c = 8 ∨ c = 9 from by omega) with rfl | rfl | rfl | rfl | rfl | rfl | rfl | rfl | rfl | rfl <;> rfl
theorem powL_one (P : Nat → One) : (powL P).toArray.all (·.oneCell') = true := by
  rw [Array.all_eq_true]
  intro i hi
  have hi : i < 160 := by simpa [powL_length] using hi
  have h1 : (powL P).toArray[i]? = some (cellOf (P (i / 10)) (i % 10)) := by simpa using powL_at P i hi
  rw [Array.getElem?_eq_getElem (by simpa [powL_length] using hi)] at h1
  injection h1 with h1
  rw [h1]
  exact cellOf_one _ _ (by omega)
theorem powL_pow {b : Nat} {w : World} {P : Nat → One} (h : w.heap[b]? = some (.cells (powL P).toArray 29 (0, 0))) : Pow b w P :=
  ⟨_, h, fun j hj c hc => by
    have h1 := powL_at P (10 * j + c) (by omega)
    rw [show (10 * j + c) / 10 = j by omega, show (10 * j + c) % 10 = c by omega] at h1
    simpa using h1⟩
/-- The code's power of nobody, its cells alone. -/
def pZ : Array Value := match powZ with | .cells C _ _ => C | _ => #[]
theorem pZ_size : pZ.size = 160 := by kernel_rfl
theorem alloc_runZ (w : World) : (Instr.alloc 29 true (.tuple #[])).run Tryd.prog w = .ok (.pointer (some ⟨w.heap.size, 0, none⟩)) (w.alloc (.cells pZ 29)) := by kernel_rfl
theorem clone_any (b : Nat) (w : World) (P : Nat → One) (h : Pow b w P) :
    Calls Tryd.prog 20 #[.pointer (some ⟨b, 0, none⟩)] w fun e w' => e = .returned (.pointer (some ⟨w.heap.size, 0, none⟩)) ∧ Gro none w w' ∧ Pow w.heap.size w' P ∧ w.heap.size < w'.heap.size := by
  have hw := h.whole
  have hone := powL_one P
  have hlen := powL_length P
  have HPP : Hid (∀ (b : Nat) (w : World), w.heap[b]? = some (.cells (powL P).toArray 29 (0, 0)) → Pow b w P) := fun _ _ h => powL_pow h
  clear h
  generalize powL P = L at *
  go_enter Tryd.func20, Tryd.ntmps20
  go_wp2_with (first
    | (refine wpList_load_mid rfl 29 _ rfl b 0 rfl L _ hw Tryd.underlying29 rfl (by rw [hlen]; kernel_rfl) ?_)
    | (refine alloc_row rfl 29 rfl 3 rfl pZ 29 alloc_runZ rfl (.tmp 6) rfl (by first | (simp; done) | (simp [Act.put]; done)) L.toArray (by rfl) (by rw [pZ_size]; simpa using hlen.symm) (by rw [show L.toArray.size = 160 by simpa using hlen]; kernel_rfl) hone ?_))
  intro w1 hg hr
  go_wp2_with fail
  go_ret
  exact ⟨rfl, hg, HPP.out _ _ hr, (Array.getElem?_eq_some_iff.1 hr).1⟩

set_option maxRecDepth 100000 in
/-- The document's power of nobody. -/
def qZ : Array Value := #[.bool false, .bool false, .bool false, .bool false, .bool false, .bool false, .bool false, .bool false, .int .i64 0, .int .i64 0, .bool false, .bool false, .bool false, .bool false, .bool false, .bool false, .bool false, .bool false, .int .i64 0, .int .i64 0, .bool false, .bool false, .bool false, .bool false, .bool false, .bool false, .bool false, .bool false, .int .i64 0, .int .i64 0, .bool false, .bool false, .bool false, .bool false, .bool false, .bool false, .bool false, .bool false, .int .i64 0, .int .i64 0, .bool false, .bool false, .bool false, .bool false, .bool false, .bool false, .bool false, .bool false, .int .i64 0, .int .i64 0, .bool false, .bool false, .bool false, .bool false, .bool false, .bool false, .bool false, .bool false, .int .i64 0, .int .i64 0, .bool false, .bool false, .bool false, .bool false, .bool false, .bool false, .bool false, .bool false, .int .i64 0, .int .i64 0, .bool false, .bool false, .bool false, .bool false, .bool false, .bool false, .bool false, .bool false, .int .i64 0, .int .i64 0, .bool false, .bool false, .bool false, .bool false, .bool false, .bool false, .bool false, .bool false, .int .i64 0, .int .i64 0, .bool false, .bool false, .bool false, .bool false, .bool false, .bool false, .bool false, .bool false, .int .i64 0, .int .i64 0, .bool false, .bool false, .bool false, .bool false, .bool false, .bool false, .bool false, .bool false, .int .i64 0, .int .i64 0, .bool false, .bool false, .bool false, .bool false, .bool false, .bool false, .bool false, .bool false, .int .i64 0, .int .i64 0, .bool false, .bool false, .bool false, .bool false, .bool false, .bool false, .bool false, .bool false, .int .i64 0, .int .i64 0, .bool false, .bool false, .bool false, .bool false, .bool false, .bool false, .bool false, .bool false, .int .i64 0, .int .i64 0, .bool false, .bool false, .bool false, .bool false, .bool false, .bool false, .bool false, .bool false, .int .i64 0, .int .i64 0, .bool false, .bool false, .bool false, .bool false, .bool false, .bool false, .bool false, .bool false, .int .i64 0, .int .i64 0, .bool false, .bool false, .bool false, .bool false, .bool false, .bool false, .bool false, .bool false, .int .i64 0, .int .i64 0]
theorem qZ_cells : ∀ j, j < 16 → ∀ c, c < 10 → qZ[10 * (j + 1) + c]? = some (cellOf One.zero c) := by
  apply all16 <;> exact cells10 (by kernel_rfl) (by kernel_rfl) (by kernel_rfl) (by kernel_rfl) (by kernel_rfl) (by kernel_rfl) (by kernel_rfl) (by kernel_rfl) (by kernel_rfl) (by kernel_rfl)
theorem dpow_new (w : World) : DPow w.heap.size (w.alloc (.cells qZ 54)) (fun _ => One.zero) := ⟨qZ, heap_alloc_new w _, qZ_cells⟩
theorem ppow_new (w : World) : Pow w.heap.size (w.alloc (.cells pZ 29)) (fun _ => One.zero) := pow_new w
theorem wpList_build_as {P : Program} {ops : Array Oper} {rest : List Oper} {o : Oper} {a : Act} {w : World} {Q : Exit → Act → World → Prop} (hgd : o.guard = none) (t : TypeId) (ho : o.op = .build t #[]) (Z : Array Value)
    (hrun : (Instr.build t #[]).run P w = .ok (.agg Z) w) (h : wpList P ops Q rest (a.put o.dst (.agg Z)) w) : wpList P ops Q (o :: rest) a w :=
  wpList_plain hgd fun _ hK => by
    unfold Oper.wp execOp
    simp only [ho, Array.map_empty, Sem.run_bind, Sem.run_pure, Result.andThen_ok, hrun]
    exact hK _ _ h
theorem wpList_box_as {P : Program} {ops : Array Oper} {rest : List Oper} {o : Oper} {a : Act} {w : World} {Q : Exit → Act → World → Prop} (hgd : o.guard = none) (t : TypeId) (x : Operand) (ho : o.op = .box t x) (Z : Array Value) (hx : a.eval x = .agg Z)
    (h : wpList P ops Q rest (a.put o.dst (.pointer (some ⟨w.heap.size, 0, none⟩))) (w.alloc (.cells Z t))) : wpList P ops Q (o :: rest) a w :=
  wpList_plain hgd fun _ hK => by
    unfold Oper.wp execOp
    have e : (Value.agg Z).cells = Z := rfl
    simp only [ho, hx, Sem.run_bind, Instr.box, newVar, newRow, run_newObj_alloc, Sem.run_pure, Result.andThen_ok, e]
    exact hK _ _ h
theorem dbuild_run (w : World) : (Instr.build 54 #[]).run Tryd.prog w = .ok (.agg qZ) w := by kernel_rfl
theorem tbuild_run (w : World) : (Instr.build 29 #[]).run Tryd.prog w = .ok (.agg pZ) w := by kernel_rfl
end Go.Proofs.YtkklnocbbpaipaaDoor
