/-
  A new Table, and the chapter's examples. No condition.
-/
import Derived.Test.YtiegcfgedhgpnaaDoorStaAdd
namespace Go.Proofs.YtiegcfgedhgpnaaDoor
open Go.RowKit

set_option maxRecDepth 100000 in
/-- A Table of nobody. -/
def tabZ : Obj := .cells #[.bool false, .int .u8 0, .int .u8 0, .int .u8 0, .int .u8 0, .int .u8 0, .int .u8 0, .int .i64 0, .bool false, .int .u8 0, .int .u8 0, .int .u8 0, .int .u8 0, .int .u8 0, .int .u8 0, .int .i64 0, .bool false, .int .u8 0, .int .u8 0, .int .u8 0, .int .u8 0, .int .u8 0, .int .u8 0, .int .i64 0, .bool false, .int .u8 0, .int .u8 0, .int .u8 0, .int .u8 0, .int .u8 0, .int .u8 0, .int .i64 0, .bool false, .int .u8 0, .int .u8 0, .int .u8 0, .int .u8 0, .int .u8 0, .int .u8 0, .int .i64 0, .bool false, .int .u8 0, .int .u8 0, .int .u8 0, .int .u8 0, .int .u8 0, .int .u8 0, .int .i64 0, .bool false, .int .u8 0, .int .u8 0, .int .u8 0, .int .u8 0, .int .u8 0, .int .u8 0, .int .i64 0, .bool false, .int .u8 0, .int .u8 0, .int .u8 0, .int .u8 0, .int .u8 0, .int .u8 0, .int .i64 0, .bool false, .int .u8 0, .int .u8 0, .int .u8 0, .int .u8 0, .int .u8 0, .int .u8 0, .int .i64 0, .bool false, .int .u8 0, .int .u8 0, .int .u8 0, .int .u8 0, .int .u8 0, .int .u8 0, .int .i64 0, .bool false, .int .u8 0, .int .u8 0, .int .u8 0, .int .u8 0, .int .u8 0, .int .u8 0, .int .i64 0, .bool false, .int .u8 0, .int .u8 0, .int .u8 0, .int .u8 0, .int .u8 0, .int .u8 0, .int .i64 0, .bool false, .int .u8 0, .int .u8 0, .int .u8 0, .int .u8 0, .int .u8 0, .int .u8 0, .int .i64 0, .bool false, .int .u8 0, .int .u8 0, .int .u8 0, .int .u8 0, .int .u8 0, .int .u8 0, .int .i64 0, .bool false, .int .u8 0, .int .u8 0, .int .u8 0, .int .u8 0, .int .u8 0, .int .u8 0, .int .i64 0, .bool false, .int .u8 0, .int .u8 0, .int .u8 0, .int .u8 0, .int .u8 0, .int .u8 0, .int .i64 0] 30
theorem alloc_run (w : World) : (Instr.alloc 30 true (.tuple #[])).run Tryd.prog w = .ok (.pointer (some ⟨w.heap.size, 0, none⟩)) (w.alloc tabZ) := by kernel_rfl
set_option maxRecDepth 100000 in
theorem tab_new (w : World) : Tab w.heap.size (w.alloc tabZ) (fun _ => Sone.zero) :=
  ⟨_, heap_alloc_new w tabZ, rfl, all16 (P := fun j => ∀ c, c < 8 → (#[.bool false, .int .u8 0, .int .u8 0, .int .u8 0, .int .u8 0, .int .u8 0, .int .u8 0, .int .i64 0, .bool false, .int .u8 0, .int .u8 0, .int .u8 0, .int .u8 0, .int .u8 0, .int .u8 0, .int .i64 0, .bool false, .int .u8 0, .int .u8 0, .int .u8 0, .int .u8 0, .int .u8 0, .int .u8 0, .int .i64 0, .bool false, .int .u8 0, .int .u8 0, .int .u8 0, .int .u8 0, .int .u8 0, .int .u8 0, .int .i64 0, .bool false, .int .u8 0, .int .u8 0, .int .u8 0, .int .u8 0, .int .u8 0, .int .u8 0, .int .i64 0, .bool false, .int .u8 0, .int .u8 0, .int .u8 0, .int .u8 0, .int .u8 0, .int .u8 0, .int .i64 0, .bool false, .int .u8 0, .int .u8 0, .int .u8 0, .int .u8 0, .int .u8 0, .int .u8 0, .int .i64 0, .bool false, .int .u8 0, .int .u8 0, .int .u8 0, .int .u8 0, .int .u8 0, .int .u8 0, .int .i64 0, .bool false, .int .u8 0, .int .u8 0, .int .u8 0, .int .u8 0, .int .u8 0, .int .u8 0, .int .i64 0, .bool false, .int .u8 0, .int .u8 0, .int .u8 0, .int .u8 0, .int .u8 0, .int .u8 0, .int .i64 0, .bool false, .int .u8 0, .int .u8 0, .int .u8 0, .int .u8 0, .int .u8 0, .int .u8 0, .int .i64 0, .bool false, .int .u8 0, .int .u8 0, .int .u8 0, .int .u8 0, .int .u8 0, .int .u8 0, .int .i64 0, .bool false, .int .u8 0, .int .u8 0, .int .u8 0, .int .u8 0, .int .u8 0, .int .u8 0, .int .i64 0, .bool false, .int .u8 0, .int .u8 0, .int .u8 0, .int .u8 0, .int .u8 0, .int .u8 0, .int .i64 0, .bool false, .int .u8 0, .int .u8 0, .int .u8 0, .int .u8 0, .int .u8 0, .int .u8 0, .int .i64 0, .bool false, .int .u8 0, .int .u8 0, .int .u8 0, .int .u8 0, .int .u8 0, .int .u8 0, .int .i64 0] : Array Value)[8 * j + c]? = some (scell Sone.zero c))
    (cells8 rfl rfl rfl rfl rfl rfl rfl rfl)
    (cells8 rfl rfl rfl rfl rfl rfl rfl rfl)
    (cells8 rfl rfl rfl rfl rfl rfl rfl rfl)
    (cells8 rfl rfl rfl rfl rfl rfl rfl rfl)
    (cells8 rfl rfl rfl rfl rfl rfl rfl rfl)
    (cells8 rfl rfl rfl rfl rfl rfl rfl rfl)
    (cells8 rfl rfl rfl rfl rfl rfl rfl rfl)
    (cells8 rfl rfl rfl rfl rfl rfl rfl rfl)
    (cells8 rfl rfl rfl rfl rfl rfl rfl rfl)
    (cells8 rfl rfl rfl rfl rfl rfl rfl rfl)
    (cells8 rfl rfl rfl rfl rfl rfl rfl rfl)
    (cells8 rfl rfl rfl rfl rfl rfl rfl rfl)
    (cells8 rfl rfl rfl rfl rfl rfl rfl rfl)
    (cells8 rfl rfl rfl rfl rfl rfl rfl rfl)
    (cells8 rfl rfl rfl rfl rfl rfl rfl rfl)
    (cells8 rfl rfl rfl rfl rfl rfl rfl rfl)⟩
theorem first_any (w : World) : Calls Tryd.prog 6 #[] w fun e w' => e = .returned (.bool true) ∧ Gro none w w' := by
  go_enter Tryd.func6, Tryd.ntmps6
  go_wp2_with (refine wpList_alloc_as rfl 30 rfl tabZ (alloc_run _) ?_)
  have hT := tab_new w
  have hg : Gro none w (w.alloc tabZ) := (Gro.refl _ _).alloc _
  have hlt : w.heap.size < (w.alloc tabZ).heap.size := by simp
  generalize w.alloc tabZ = w1 at *
  have HA := Lib.hid (add_new w.heap.size ⟨2, 0, 0, 0, 0, 0⟩ 0 0 w1 _ hT (by decide) (by decide) (by decide) (fun _ _ => rfl) (by decide) (fun _ h => absurd h (by omega)) rfl rfl (by decide) (by decide))
  generalize hB : w.heap.size = B at hT hlt HA ⊢
  clear hT
  go_wp2_with fail
  refine HA.out.mono ?_
  rintro e w2 ⟨rfl, hg2, hT2⟩
  have he := Lib.hid (epoch_in B 1 0 w2 _ hT2 (by decide) rfl)
  rw [updT_same] at he
  clear hT2 HA
  go_wp2_with fail
  refine he.out.mono ?_
  rintro e w' ⟨rfl, rfl⟩
  go_wp2_with fail
  go_ret
  refine ⟨rfl, ?_⟩
  have h12 := (hg.weak (row := some B)).trans hg2
  exact ⟨h12.os, h12.output, h12.size, fun k hk _ => h12.block k hk (by simp; omega)⟩
end Go.Proofs.YtiegcfgedhgpnaaDoor
