/-
  muezzinref.SameAddr among the addresses of chapter 22: it answers whether two are the same. No condition.
-/
import Derived.Test.YtiegcfgedhgpnaaDoorStaD
namespace Go.Proofs.YtiegcfgedhgpnaaDoor
open Go.RowKit

/-- Byte k of an address. -/
def ab (a : Ad) : Nat → Int
  | 0 => a.b0
  | 1 => a.b1
  | 2 => a.b2
  | 3 => a.b3
  | 4 => a.b4
  | _ => a.b5
theorem eqA_all {x y : Ad} (h : ∀ j, j < 6 → ab x j = ab y j) : eqA x y = true := by
  rw [eqA_iff]
  cases x
  cases y
  have h0 := h 0 (by decide)
  have h1 := h 1 (by decide)
  have h2 := h 2 (by decide)
  have h3 := h 3 (by decide)
  have h4 := h 4 (by decide)
  have h5 := h 5 (by decide)
  simp only [ab] at h0 h1 h2 h3 h4 h5
  subst h0 h1 h2 h3 h4 h5
  rfl
theorem eqA_one {x y : Ad} {k : Nat} (h : ab x k ≠ ab y k) : eqA x y = false := by
  rw [← Bool.not_eq_true, eqA_iff]
  intro e
  exact h (by rw [e])
theorem row_ab (x : Ad) (k : Nat) (hk : k < 6) : (#[.int .u8 x.b0, .int .u8 x.b1, .int .u8 x.b2, .int .u8 x.b3, .int .u8 x.b4, .int .u8 x.b5] : Array Value)[k]? = some (.int .u8 (ab x k)) := by
  rcases (show k = 0 ∨ k = 1 ∨ k = 2 ∨ k = 3 ∨ k = 4 ∨ k = 5 from by omega) with rfl | rfl | rfl | rfl | rfl | rfl <;> rfl
theorem sameAddr_any (x y : Ad) (w : World) :
    Calls Tryd.prog 21 #[adV x, adV y] w fun e w' => e = .returned (.bool (eqA x y)) ∧ Gro none w w' := by
  have HT := Lib.hid (fun h => eqA_all (x := x) (y := y) h)
  have HF := Lib.hid (fun k h => eqA_one (x := x) (y := y) (k := k) h)
  have HXR := Lib.hid (row_ab x)
  have HYR := Lib.hid (row_ab y)
  unfold adV
  obtain ⟨X, hX⟩ : ∃ X, X = ab x := ⟨_, rfl⟩
  obtain ⟨Y, hY⟩ : ∃ Y, Y = ab y := ⟨_, rfl⟩
  rw [← hX] at HXR HT HF
  rw [← hY] at HYR HT HF
  generalize eqA x y = E at *
  clear hX hY
  obtain ⟨x0, x1, x2, x3, x4, x5⟩ := x
  obtain ⟨y0, y1, y2, y3, y4, y5⟩ := y
  simp only at HXR HYR ⊢
  go_enter Tryd.func21, Tryd.ntmps21
  go_wp2_with fail
  have hg0 : Gro none w ((w.alloc (.cells #[.int .u8 x0, .int .u8 x1, .int .u8 x2, .int .u8 x3, .int .u8 x4, .int .u8 x5] 25)).alloc (.cells #[.int .u8 y0, .int .u8 y1, .int .u8 y2, .int .u8 y3, .int .u8 y4, .int .u8 y5] 25)) := ((Gro.refl _ _).alloc _).alloc _
  have hbx : ((w.alloc (.cells #[.int .u8 x0, .int .u8 x1, .int .u8 x2, .int .u8 x3, .int .u8 x4, .int .u8 x5] 25)).alloc (.cells #[.int .u8 y0, .int .u8 y1, .int .u8 y2, .int .u8 y3, .int .u8 y4, .int .u8 y5] 25)).heap[w.heap.size]? = some (.cells #[.int .u8 x0, .int .u8 x1, .int .u8 x2, .int .u8 x3, .int .u8 x4, .int .u8 x5] 25 (0, 0)) := (Below.heap_alloc _ _ _ (by simp)).trans (heap_alloc_new w _)
  have hby : ((w.alloc (.cells #[.int .u8 x0, .int .u8 x1, .int .u8 x2, .int .u8 x3, .int .u8 x4, .int .u8 x5] 25)).alloc (.cells #[.int .u8 y0, .int .u8 y1, .int .u8 y2, .int .u8 y3, .int .u8 y4, .int .u8 y5] 25)).heap[w.heap.size + 1]? = some (.cells #[.int .u8 y0, .int .u8 y1, .int .u8 y2, .int .u8 y3, .int .u8 y4, .int .u8 y5] 25 (0, 0)) := by
    have h := heap_alloc_new (w.alloc (.cells #[.int .u8 x0, .int .u8 x1, .int .u8 x2, .int .u8 x3, .int .u8 x4, .int .u8 x5] 25)) (.cells #[.int .u8 y0, .int .u8 y1, .int .u8 y2, .int .u8 y3, .int .u8 y4, .int .u8 y5] 25)
    simp only [show ∀ (w : World) (o : Obj), (w.alloc o).heap.size = w.heap.size + 1 from fun w o => by simp] at h
    exact h
  generalize (w.alloc _).alloc _ = w1 at *
  have HX := Lib.hid (fun w' (k : Gro none w1 w') j (hj : j < 6) => ((cell_of_row w' w.heap.size j _ _ _ ((k.block _ (Array.getElem?_eq_some_iff.1 hbx).1 (by simp)).trans hbx)).trans (HXR.out j hj) : w'.cell? ⟨w.heap.size, j, none⟩ = some (.int .u8 (X j))))
  have HY := Lib.hid (fun w' (k : Gro none w1 w') j (hj : j < 6) => ((cell_of_row w' (w.heap.size + 1) j _ _ _ ((k.block _ (Array.getElem?_eq_some_iff.1 hby).1 (by simp)).trans hby)).trans (HYR.out j hj) : w'.cell? ⟨w.heap.size + 1, j, none⟩ = some (.int .u8 (Y j))))
  have HG0 := Lib.hid hg0
  clear hg0 hbx hby HXR HYR
  go_loopw [5] (fun i wr => ∃ k : Nat, k ≤ 6 ∧ i = .int .i64 k ∧ Gro none w1 wr ∧ ∀ j, j < k → X j = Y j) (fun i _ => 6 - (intOf i).toNat)
  case atStart => exact ⟨0, by decide, rfl, Gro.refl _ _, fun j hj => by omega⟩
  case round =>
    obtain ⟨k, hk, rfl, hg, he⟩ := hrel
    have HE := Lib.hid he
    have HGG := Lib.hid hg
    clear he
    by_cases h6 : k < 6
    · have c1 := HX.out _ hg k h6
      have c2 := HY.out _ hg k h6
      have i0 : (0 : Int) ≤ (k : Int) := by omega
      have i1 : (k : Int) < 6 := by omega
      clear hg
      by_cases hne : X k = Y k
      · rw [hne] at c1
        have HN : Hid (∀ j, j < k + 1 → X j = Y j) := fun j hj => by
          rcases (show j < k ∨ j = k from by omega) with h | rfl
          · exact HE.out j h
          · exact hne
        generalize Y k = v at *
        clear hne
        go_wp2_with fail
        go_quiet (fail)
        all_goals (try go_wp2_with fail)
        all_goals go_roundw
        case rel => exact ⟨k + 1, by omega, by go_num, HGG.out.drewN _, HN.out⟩
        case measure => simp [intOf]; omega
      · have hb : (X k == Y k) = false := by simpa using hne
        have HD := Lib.hid (HF.out k hne)
        clear hne
        generalize X k = v at *
        generalize Y k = u at *
        go_wp2_with fail
        go_quiet (fail)
        all_goals (try go_wp2_with fail)
        all_goals go_ret
        all_goals exact ⟨ret_bool HD.out.symm, HG0.out.trans (HGG.out.drewN _)⟩
    · obtain rfl : k = 6 := by omega
      go_wp2_with fail
      go_ret
      exact ⟨ret_bool (HT.out (fun j hj => HE.out j hj)).symm, HG0.out.trans HGG.out⟩
end Go.Proofs.YtiegcfgedhgpnaaDoor
