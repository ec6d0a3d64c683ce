/-
  Clone, and the document's new table. Conditions: the block is whole ('Tab').
-/
import Derived.Test.YtiegcfgedhgpnaaDoorStaDX
namespace Go.Proofs.YtiegcfgedhgpnaaDoor
open Go.RowKit

theorem scell_one (o : Sone) (c : Nat) (hc : c < 8) : (scell o c).oneCell' = true := by
  rcases (show c = 0 ∨ c = 1 ∨ c = 2 ∨ c = 3 ∨ c = 4 ∨ c = 5 ∨ c = 6 ∨ c = 7 from by omega) with rfl | rfl | rfl | rfl | rfl | rfl | rfl | rfl <;> rfl
theorem TabC.one {C : Array Value} {T : Nat → Sone} (h : TabC C T) : C.all (·.oneCell') = true := by
  rw [Array.all_eq_true]
  intro i hi
  have hs := h.1
  have h1 := h.2 (i / 8) (by omega) (i % 8) (by omega)
  rw [Nat.div_add_mod, Array.getElem?_eq_getElem hi] at h1
  injection h1 with h1
  simp only [h1]
  exact scell_one _ _ (by omega)
/-- The code's table of nobody, its cells alone. -/
def tZ : Array Value := match tabZ with | .cells C _ _ => C | _ => #[]
theorem alloc_runZ (w : World) : (Instr.alloc 30 true (.tuple #[])).run Tryd.prog w = .ok (.pointer (some ⟨w.heap.size, 0, none⟩)) (w.alloc (.cells tZ 30)) := by kernel_rfl
theorem clone_any (b : Nat) (w : World) (T : Nat → Sone) (h : Tab b w T) :
    Calls Tryd.prog 15 #[.pointer (some ⟨b, 0, none⟩)] w fun e w' => e = .returned (.pointer (some ⟨w.heap.size, 0, none⟩)) ∧ Gro none w w' ∧ Tab w.heap.size w' T ∧ w.heap.size < w'.heap.size := by
  obtain ⟨C, hb, hC⟩ := h
  have h1 := hC.one
  have hs := hC.1
  have HC := Lib.hid hC
  clear hC
  go_enter Tryd.func15, Tryd.ntmps15
  go_wp2_with (first
    | (refine load_row rfl 30 _ rfl b rfl C 30 hb _ Tryd.underlying30 rfl (by rw [hs]; kernel_rfl) ?_)
    | (refine alloc_row rfl 30 rfl 3 rfl tZ 30 alloc_runZ rfl (.tmp 6) rfl (by first | (simp; done) | (simp [Act.put]; done)) C (by rfl) (by rw [hs]; kernel_rfl) (by rw [hs]; kernel_rfl) h1 ?_))
  intro w1 hg hr
  go_wp2_with fail
  go_ret
  exact ⟨rfl, hg, ⟨C, hr, HC.out⟩, (Array.getElem?_eq_some_iff.1 hr).1⟩

set_option maxRecDepth 100000 in
/-- The document's table of nobody. -/
def dZ : Array Value := #[.int .u8 0, .int .u8 0, .int .u8 0, .int .u8 0, .int .u8 0, .int .u8 0, .int .u8 0, .int .u8 0, .int .u8 0, .int .u8 0, .int .u8 0, .int .u8 0, .int .u8 0, .int .u8 0, .int .u8 0, .int .u8 0, .int .u8 0, .int .u8 0, .int .u8 0, .int .u8 0, .int .u8 0, .int .u8 0, .int .u8 0, .int .u8 0, .int .u8 0, .int .u8 0, .int .u8 0, .int .u8 0, .int .u8 0, .int .u8 0, .int .u8 0, .int .u8 0, .int .u8 0, .int .u8 0, .int .u8 0, .int .u8 0, .int .u8 0, .int .u8 0, .int .u8 0, .int .u8 0, .int .u8 0, .int .u8 0, .int .u8 0, .int .u8 0, .int .u8 0, .int .u8 0, .int .u8 0, .int .u8 0, .int .u8 0, .int .u8 0, .int .u8 0, .int .u8 0, .int .u8 0, .int .u8 0, .int .u8 0, .int .u8 0, .int .u8 0, .int .u8 0, .int .u8 0, .int .u8 0, .int .u8 0, .int .u8 0, .int .u8 0, .int .u8 0, .int .u8 0, .int .u8 0, .int .u8 0, .int .u8 0, .int .u8 0, .int .u8 0, .int .u8 0, .int .u8 0, .int .u8 0, .int .u8 0, .int .u8 0, .int .u8 0, .int .u8 0, .int .u8 0, .int .u8 0, .int .u8 0, .int .u8 0, .int .u8 0, .int .u8 0, .int .u8 0, .int .u8 0, .int .u8 0, .int .u8 0, .int .u8 0, .int .u8 0, .int .u8 0, .int .u8 0, .int .u8 0, .int .u8 0, .int .u8 0, .int .u8 0, .int .u8 0, .int .u8 0, .int .u8 0, .int .u8 0, .int .u8 0, .int .u8 0, .int .u8 0, .bool false, .bool false, .bool false, .bool false, .bool false, .bool false, .bool false, .bool false, .bool false, .bool false, .bool false, .bool false, .bool false, .bool false, .bool false, .bool false, .bool false, .int .i64 0, .int .i64 0, .int .i64 0, .int .i64 0, .int .i64 0, .int .i64 0, .int .i64 0, .int .i64 0, .int .i64 0, .int .i64 0, .int .i64 0, .int .i64 0, .int .i64 0, .int .i64 0, .int .i64 0, .int .i64 0, .int .i64 0]
theorem dZ_size : dZ.size = 136 := by kernel_rfl
theorem dZ_cells : DTabC dZ (fun _ => Sone.zero) := by
  refine ⟨dZ_size, fun j hj => ⟨fun c hc => ?_, ?_, ?_⟩⟩
  · have h : ∀ k, k < 102 → dZ[k]? = some (.int .u8 0) := by
      intro k hk
      have h2 : (dZ.toList.take 102)[k]? = some (Value.int .u8 0) := by
        rw [show dZ.toList.take 102 = List.replicate 102 (Value.int .u8 0) by kernel_rfl, List.getElem?_replicate, if_pos hk]
      rw [List.getElem?_take, if_pos hk, Array.getElem?_toList] at h2
      exact h2
    rw [h _ (by omega)]
    rcases (show c = 0 ∨ c = 1 ∨ c = 2 ∨ c = 3 ∨ c = 4 ∨ c = 5 from by omega) with rfl | rfl | rfl | rfl | rfl | rfl <;> rfl
  · have h2 : ((dZ.toList.drop 103).take 16)[j]? = some (Value.bool false) := by
      rw [show (dZ.toList.drop 103).take 16 = List.replicate 16 (Value.bool false) by kernel_rfl, List.getElem?_replicate, if_pos hj]
    rw [List.getElem?_take, if_pos hj, List.getElem?_drop, Array.getElem?_toList] at h2
    exact h2
  · have h2 : ((dZ.toList.drop 120).take 16)[j]? = some (Value.int .i64 0) := by
      rw [show (dZ.toList.drop 120).take 16 = List.replicate 16 (Value.int .i64 0) by kernel_rfl, List.getElem?_replicate, if_pos hj]
    rw [List.getElem?_take, if_pos hj, List.getElem?_drop, Array.getElem?_toList] at h2
    exact h2
theorem dtab_new (w : World) : DTab w.heap.size (w.alloc (.cells dZ 54)) (fun _ => Sone.zero) := ⟨dZ, heap_alloc_new w _, dZ_cells⟩
theorem wpList_build_as {P : Program} {ops : Array Oper} {rest : List Oper} {o : Oper} {a : Act} {w : World} {Q : Exit → Act → World → Prop} (hgd : o.guard = none) (t : TypeId) (ho : o.op = .build t #[]) (Z : Array Value)
    (hrun : (Instr.build t #[]).run P w = .ok (.agg Z) w) (h : wpList P ops Q rest (a.put o.dst (.agg Z)) w) : wpList P ops Q (o :: rest) a w :=
  wpList_plain hgd fun _ hK => by
    unfold Oper.wp execOp
    simp only [ho, Array.map_empty, Sem.run_bind, Sem.run_pure, Result.andThen_ok, hrun]
    exact hK _ _ h
theorem wpList_box_as {P : Program} {ops : Array Oper} {rest : List Oper} {o : Oper} {a : Act} {w : World} {Q : Exit → Act → World → Prop} (hgd : o.guard = none) (t : TypeId) (x : Operand) (ho : o.op = .box t x) (Z : Array Value) (hx : a.eval x = .agg Z)
    (h : wpList P ops Q rest (a.put o.dst (.pointer (some ⟨w.heap.size, 0, none⟩))) (w.alloc (.cells Z t))) : wpList P ops Q (o :: rest) a w :=
  wpList_plain hgd fun _ hK => by
    unfold Oper.wp execOp
    have e : (Value.agg Z).cells = Z := rfl
    simp only [ho, hx, Sem.run_bind, Instr.box, newVar, newRow, run_newObj_alloc, Sem.run_pure, Result.andThen_ok, e]
    exact hK _ _ h
theorem dbuild_run (w : World) : (Instr.build 54 #[]).run Tryd.prog w = .ok (.agg dZ) w := by kernel_rfl
theorem tbuild_run (w : World) : (Instr.build 30 #[]).run Tryd.prog w = .ok (.agg tZ) w := by kernel_rfl
theorem ttab_new (w : World) : Tab w.heap.size (w.alloc (.cells tZ 30)) (fun _ => Sone.zero) := tab_new w
end Go.Proofs.YtiegcfgedhgpnaaDoor
