/-
  Add gives a number. Conditions: the block is whole ('Tab').
-/
import Derived.Test.YtiegcfgedhgpnaaDoorStaMore
namespace Go.Proofs.YtiegcfgedhgpnaaDoor
open Go.RowKit

theorem Tab.s0 {b : Nat} {w : World} {T : Nat → Sone} (h : Tab b w T) (j : Nat) (hj : j < 16) (x : Bool) : Tab b (w.setCell ⟨b, 8 * j, none⟩ (.bool x)) (updT T j { T j with th := x }) :=
  h.set j hj 0 (by decide) _ _ rfl (cells8 (Q := fun c' => c' ≠ 0 → scell { T j with th := x } c' = scell (T j) c') (fun e => absurd rfl e) (fun _ => rfl) (fun _ => rfl) (fun _ => rfl) (fun _ => rfl) (fun _ => rfl) (fun _ => rfl) (fun _ => rfl))
/-- Six stores: who. -/
theorem Tab.s16 {b : Nat} {w : World} {T : Nat → Sone} (h : Tab b w T) (j : Nat) (hj : j < 16) (a : Ad) :
    Tab b ((((((w.setCell ⟨b, 8 * j + 1, none⟩ (.int .u8 a.b0)).setCell ⟨b, 8 * j + 2, none⟩ (.int .u8 a.b1)).setCell ⟨b, 8 * j + 3, none⟩ (.int .u8 a.b2)).setCell ⟨b, 8 * j + 4, none⟩ (.int .u8 a.b3)).setCell ⟨b, 8 * j + 5, none⟩ (.int .u8 a.b4)).setCell ⟨b, 8 * j + 6, none⟩ (.int .u8 a.b5)) (updT T j { T j with a := a }) := by
  obtain ⟨C, hb, hs, hC⟩ := h
  refine ⟨((((((C.setIfInBounds (8 * j + 1) (.int .u8 a.b0)).setIfInBounds (8 * j + 2) (.int .u8 a.b1)).setIfInBounds (8 * j + 3) (.int .u8 a.b2)).setIfInBounds (8 * j + 4) (.int .u8 a.b3)).setIfInBounds (8 * j + 5) (.int .u8 a.b4)).setIfInBounds (8 * j + 6) (.int .u8 a.b5)),
    heap_setCell_same _ b _ _ _ _ (heap_setCell_same _ b _ _ _ _ (heap_setCell_same _ b _ _ _ _ (heap_setCell_same _ b _ _ _ _ (heap_setCell_same _ b _ _ _ _ (heap_setCell_same _ b _ _ _ _ hb))))), by simp [hs], fun j' hj' c' hc' => ?_⟩
  by_cases e : j' = j
  · subst e
    rw [updT_same]
    have h7 := hC j' hj' 7 (by decide)
    have h0 := hC j' hj' 0 (by decide)
    rcases (show c' = 0 ∨ c' = 1 ∨ c' = 2 ∨ c' = 3 ∨ c' = 4 ∨ c' = 5 ∨ c' = 6 ∨ c' = 7 from by omega) with rfl | rfl | rfl | rfl | rfl | rfl | rfl | rfl
    all_goals simp [Array.getElem?_setIfInBounds, scell]
    all_goals first | omega | (rw [h7]; rfl) | exact h0
  · rw [updT_other _ _ _ _ e, ← hC j' hj' c' hc']
    repeat rw [Array.getElem?_setIfInBounds, if_neg (by omega)]
theorem Tab.at_same {b : Nat} {w : World} {T T' : Nat → Sone} (h : Tab b w T) (e : T = T') : Tab b w T' := e ▸ h

theorem add_new (b : Nat) (x : Ad) (j : Nat) (ep : Int) (w : World) (T : Nat → Sone) (h : Tab b w T) (h0 : 0 ≤ x.b0) (h1 : x.b0 < 256) (hf : fairA x = true) (hno : ∀ k, k < 16 → hitB T x k = false) (hj : j < 16) (hbus : ∀ k, k < j → (T k).th = true) (hfree : (T j).th = false)
    (hep : (T j).ep = ep) (he0 : 0 ≤ ep) (he1 : ep < 9223372036854775807) :
    Calls Tryd.prog 10 #[.pointer (some ⟨b, 0, none⟩), adV x] w fun e w' => e = .returned (.tuple #[.int .i64 (j + 1), .nilIface]) ∧ Gro (some b) w w' ∧ Tab b w' (updT T j ⟨true, x, ep + 1⟩) := by
  have hfa := Lib.hid (fun w : World => fair_any x w h0 h1)
  rw [hf] at hfa
  have hfi := Lib.hid (fun (w : World) (h : Tab b w T) => find_any b x 16 w T h (by omega) hno (by omega))
  have hfin1 : Hid (∀ w, Tab b w T → Tab b (World.setCell (((((((w.setCell ⟨b, 8 * j, none⟩ (.bool true)).setCell ⟨b, 8 * j + 1, none⟩ (.int .u8 x.b0)).setCell ⟨b, 8 * j + 2, none⟩ (.int .u8 x.b1)).setCell ⟨b, 8 * j + 3, none⟩ (.int .u8 x.b2)).setCell ⟨b, 8 * j + 4, none⟩ (.int .u8 x.b3)).setCell ⟨b, 8 * j + 5, none⟩ (.int .u8 x.b4)).setCell ⟨b, 8 * j + 6, none⟩ (.int .u8 x.b5)) ⟨b, 8 * j + 7, none⟩ (.int .i64 (ep + 1))) (updT T j ⟨true, x, ep + 1⟩)) := by
    intro w h
    refine Tab.at_same (Tab.s7 (h.s06 j hj true x) j hj (ep + 1)) ?_
    rw [updT_same, updT_updT]
  obtain ⟨x0, x1, x2, x3, x4, x5⟩ := x
  unfold adV at *
  simp only at *
  have hw : Hid (∀ w', Gro none (w.alloc (.cells #[.int .u8 x0, .int .u8 x1, .int .u8 x2, .int .u8 x3, .int .u8 x4, .int .u8 x5] 25)) w' → Gro (some b) w w' ∧ Tab b w' T) := by
    intro w' k
    have hg : Gro none w w' := ((Gro.refl none w).alloc _).trans k
    exact ⟨hg.weak, h.gro hg (by simp)⟩
  have hbx : Hid (∀ w', Gro none (w.alloc (.cells #[.int .u8 x0, .int .u8 x1, .int .u8 x2, .int .u8 x3, .int .u8 x4, .int .u8 x5] 25)) w' → _) := fun w' k => box_cells (x := ⟨x0, x1, x2, x3, x4, x5⟩) rfl k
  have HF := Lib.hid hbus
  have hblt := h.lt
  have hne : b ≠ w.heap.size := by omega
  have HFR := Lib.hid hfree
  have HEP := Lib.hid hep
  clear h hno hf hbus hfree hep
  go_enter Tryd.func10, Tryd.ntmps10
  go_wp2_with fail
  refine (hfa.out _).mono ?_
  rintro e w2 ⟨rfl, h2⟩
  obtain ⟨hg2, hT2⟩ := hw.out _ h2
  obtain ⟨c0, c1, c2, c3, c4, c5, hBlt⟩ := hbx.out _ h2
  have HT2 := Lib.hid hT2
  clear hT2
  go_wp2_with fail
  refine (hfi.out _ HT2.out).mono ?_
  rintro e w3 ⟨rfl, h3⟩
  obtain ⟨hg3, hT3⟩ := hw.out _ (h2.trans h3)
  clear c0 c1 c2 c3 c4 c5 hBlt
  obtain ⟨c0, c1, c2, c3, c4, c5, hBlt⟩ := hbx.out _ (h2.trans h3)
  clear h2 h3 hg2 HT2
  have HT3 := Lib.hid hT3
  clear hT3
  generalize w.heap.size = B at *
  rw [show decide (16 < 16) = false from rfl]
  go_wp2_with fail
  go_loop [8, 9, 22] (fun _ _ i => ∃ k : Nat, k ≤ j ∧ i = .int .i64 k) (fun _ _ i => 16 - (intOf i).toNat)
  case atStart => exact ⟨0, Nat.zero_le _, rfl⟩
  case round =>
    obtain ⟨k, hk, rfl⟩ := hrel
    have hlt : k < 16 := by omega
    by_cases hkj : k < j
    · have ct := HT3.out.cell k hlt 0 (by decide)
      simp only [scell, HF.out k hkj, Nat.add_zero] at ct
      rw [Nat.mul_comm] at ct
      clear c0 c1 c2 c3 c4 c5
      go_wp2
      go_round
      case rel => exact ⟨k + 1, by omega, by go_num⟩
      case measure => simp [intOf]; omega
    · obtain rfl : k = j := by omega
      have ct := HT3.out.cell k hlt 0 (by decide)
      have d1 := HT3.out.cell k hlt 1 (by decide)
      have d2 := HT3.out.cell k hlt 2 (by decide)
      have d3 := HT3.out.cell k hlt 3 (by decide)
      have d4 := HT3.out.cell k hlt 4 (by decide)
      have d5 := HT3.out.cell k hlt 5 (by decide)
      have d6 := HT3.out.cell k hlt 6 (by decide)
      have d7 := HT3.out.cell k hlt 7 (by decide)
      have fr := HT3.out.fr
      have hf1 := Lib.hid (hfin1.out _ HT3.out)
      simp only [scell, HFR.out, HEP.out, Nat.add_zero] at ct d7
      rw [Nat.mul_comm] at ct d1 d2 d3 d4 d5 d6 d7 hf1
      generalize hoff : k * 8 = off at ct d1 d2 d3 d4 d5 d6 d7 hf1
      subst hoff
      go_wp2_with fail
      go_region
      all_goals (try go_wp2)
      all_goals go_ret2
      all_goals exact ⟨rfl, ((((((((hg3.setCell _ _).setCell _ _).setCell _ _).setCell _ _).setCell _ _).setCell _ _).setCell _ _).setCell _ _).drew, hf1.out.drew⟩
end Go.Proofs.YtiegcfgedhgpnaaDoor
