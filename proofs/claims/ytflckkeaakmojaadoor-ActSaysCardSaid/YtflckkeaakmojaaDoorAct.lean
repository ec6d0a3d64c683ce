/-
  THE WALKS OF package act, WRITING: top, two, number, front. No condition beyond what each theorem states.
-/
import Derived.Test.YtflckkeaakmojaaDoorByt
namespace Go.Proofs.YtflckkeaakmojaaDoor
open Go.RowKit

theorem number_at2 (b o n cap : Nat) (x y : Int) (w : World) (hn : 2 ≤ n) (hx : w.cell? ⟨b, o, none⟩ = some (.int .u8 x)) (hy : w.cell? ⟨b, o + 1, none⟩ = some (.int .u8 y)) (hx0 : 0 ≤ x ∧ x < 256) (hy0 : 0 ≤ y ∧ y < 256) :
    Calls Tryd.prog 28 #[.slice (some ⟨b, o, none⟩) n cap] w fun e w' => e = .returned (.int .i64 (x + 256 * y)) ∧ ∃ m, w.drewN m = w' := by
  have h0 : 0 < n := by omega
  have h1 : 1 < n := by omega
  have HO := Lib.hid (or_two x y hx0 hy0)
  obtain ⟨hx0, hx1⟩ := hx0
  obtain ⟨hy0, hy1⟩ := hy0
  go_enter Tryd.func28, Tryd.ntmps28
  go_wp2_with fail
  go_quiet (fail)
  all_goals (try go_wp2)
  all_goals go_ret
  all_goals exact ⟨ret_int HO.out, _, rfl⟩

theorem two_any (n : Int) (w : World) (h0 : 0 ≤ n) (h1 : n < 65536) :
    Calls Tryd.prog 23 #[.int .i64 n] w fun e w' => e = .returned (.slice (some ⟨w.heap.size, 0, none⟩) 2 2) ∧ LieA w' ⟨w.heap.size, 0, none⟩ (twoL n) ∧ Gro none w w' := by
  go_enter Tryd.func23, Tryd.ntmps23
  go_wp2
  go_ret
  exact ⟨rfl, lie_two w _ _ _ _ rfl (Gro.refl _ _), (Gro.refl _ _).alloc _⟩

theorem top_in (n m : Int) (w : World) (h0 : 0 ≤ n) (h1 : n ≤ m) : Calls Tryd.prog 21 #[.int .i64 n, .int .i64 m] w fun e w' => e = .returned (.bool true) ∧ w = w' := by
  go_enter Tryd.func21, Tryd.ntmps21
  go_wp2
  go_ret
  exact ⟨rfl, rfl⟩
theorem top_out (n m : Int) (w : World) (h : ¬ (0 ≤ n ∧ n ≤ m)) : Calls Tryd.prog 21 #[.int .i64 n, .int .i64 m] w fun e w' => e = .returned (.bool false) ∧ w = w' := by
  rcases (show n < 0 ∨ (0 ≤ n ∧ m < n) from by omega) with h1 | ⟨h0, h1⟩
  · have h2 : ¬ 0 ≤ n := by omega
    clear h
    go_enter Tryd.func21, Tryd.ntmps21
    go_wp2
    go_ret
    exact ⟨rfl, rfl⟩
  · have h2 : ¬ n ≤ m := by omega
    clear h
    go_enter Tryd.func21, Tryd.ntmps21
    go_wp2
    go_ret
    exact ⟨rfl, rfl⟩
theorem top_any (n m : Int) (w : World) : Calls Tryd.prog 21 #[.int .i64 n, .int .i64 m] w fun e w' => e = .returned (.bool (decide (0 ≤ n ∧ n ≤ m))) ∧ w = w' := by
  by_cases h : 0 ≤ n ∧ n ≤ m
  · rw [decide_eq_true h]; exact top_in n m w h.1 h.2
  · rw [decide_eq_false h]; exact top_out n m w h

/-- What all begin with. -/
def frontL (to fr bs : Ad) (what : Int) : List Int := [208, 0, 0, 0] ++ adL to ++ adL fr ++ adL bs ++ [0, 0, 3, what]
def addrsL (to fr bs : Ad) : Nat → List Int
  | 0 => []
  | 1 => adL to
  | 2 => adL to ++ adL fr
  | _ => adL to ++ adL fr ++ adL bs
set_option maxRecDepth 100000 in
theorem front_any (to fr bs : Ad) (what : Int) (w : World) :
    Calls Tryd.prog 22 #[adV to, adV fr, adV bs, .int .u8 what] w fun e w' => ∃ v, e = .returned v ∧ Gro none w w' ∧ Own w.heap.size w' v (frontL to fr bs what) := by
  obtain ⟨t0, t1, t2, t3, t4, t5⟩ := to
  obtain ⟨f0, f1, f2, f3, f4, f5⟩ := fr
  obtain ⟨b0, b1, b2, b3, b4, b5⟩ := bs
  have HL := Lib.hid (show frontL ⟨t0, t1, t2, t3, t4, t5⟩ ⟨f0, f1, f2, f3, f4, f5⟩ ⟨b0, b1, b2, b3, b4, b5⟩ what = ([208, 0, 0, 0] ++ addrsL ⟨t0, t1, t2, t3, t4, t5⟩ ⟨f0, f1, f2, f3, f4, f5⟩ ⟨b0, b1, b2, b3, b4, b5⟩ 3) ++ [0, 0, 3, what] by unfold frontL addrsL; simp)
  unfold adV
  simp only
  go_enter Tryd.func22, Tryd.ntmps22
  go_wp2_with fail
  have hgw : Gro none w (((w.alloc (.cells #[.int .u8 t0, .int .u8 t1, .int .u8 t2, .int .u8 t3, .int .u8 t4, .int .u8 t5] 25)).alloc (.cells #[.int .u8 f0, .int .u8 f1, .int .u8 f2, .int .u8 f3, .int .u8 f4, .int .u8 f5] 25)).alloc (.cells #[.int .u8 b0, .int .u8 b1, .int .u8 b2, .int .u8 b3, .int .u8 b4, .int .u8 b5] 25)) := (((Gro.refl _ _).alloc _).alloc _).alloc _
  have hsz : (((w.alloc (.cells #[.int .u8 t0, .int .u8 t1, .int .u8 t2, .int .u8 t3, .int .u8 t4, .int .u8 t5] 25)).alloc (.cells #[.int .u8 f0, .int .u8 f1, .int .u8 f2, .int .u8 f3, .int .u8 f4, .int .u8 f5] 25)).alloc (.cells #[.int .u8 b0, .int .u8 b1, .int .u8 b2, .int .u8 b3, .int .u8 b4, .int .u8 b5] 25)).heap.size = w.heap.size + 1 + 1 + 1 := by simp
  generalize (((w.alloc (.cells #[.int .u8 t0, .int .u8 t1, .int .u8 t2, .int .u8 t3, .int .u8 t4, .int .u8 t5] 25)).alloc (.cells #[.int .u8 f0, .int .u8 f1, .int .u8 f2, .int .u8 f3, .int .u8 f4, .int .u8 f5] 25)).alloc (.cells #[.int .u8 b0, .int .u8 b1, .int .u8 b2, .int .u8 b3, .int .u8 b4, .int .u8 b5] 25)) = wb at *
  have ho := own_new wb [208, 0, 0, 0] #[.int .u8 208, .int .u8 0, .int .u8 0, .int .u8 0] (w.heap.size + 1 + 1 + 1) hsz.symm rfl 4 rfl (by decide)
  have h18 : ((wb.alloc (.cells #[.int .u8 208, .int .u8 0, .int .u8 0, .int .u8 0] 5)).alloc (.cells #[.int .u8 t0, .int .u8 t1, .int .u8 t2, .int .u8 t3, .int .u8 t4, .int .u8 t5, .int .u8 f0, .int .u8 f1, .int .u8 f2, .int .u8 f3, .int .u8 f4, .int .u8 f5, .int .u8 b0, .int .u8 b1, .int .u8 b2, .int .u8 b3, .int .u8 b4, .int .u8 b5] 25)).heap[w.heap.size + 1 + 1 + 1 + 1]? = some (.cells #[.int .u8 t0, .int .u8 t1, .int .u8 t2, .int .u8 t3, .int .u8 t4, .int .u8 t5, .int .u8 f0, .int .u8 f1, .int .u8 f2, .int .u8 f3, .int .u8 f4, .int .u8 f5, .int .u8 b0, .int .u8 b1, .int .u8 b2, .int .u8 b3, .int .u8 b4, .int .u8 b5] 25 (0, 0)) := by
    have := heap_alloc_new (wb.alloc (.cells #[.int .u8 208, .int .u8 0, .int .u8 0, .int .u8 0] 5)) (.cells #[.int .u8 t0, .int .u8 t1, .int .u8 t2, .int .u8 t3, .int .u8 t4, .int .u8 t5, .int .u8 f0, .int .u8 f1, .int .u8 f2, .int .u8 f3, .int .u8 f4, .int .u8 f5, .int .u8 b0, .int .u8 b1, .int .u8 b2, .int .u8 b3, .int .u8 b4, .int .u8 b5] 25)
    simp only [show ∀ (w : World) (o : Obj), (w.alloc o).heap.size = w.heap.size + 1 from fun w o => by simp, hsz] at this
    exact this
  have ho5 : Own wb.heap.size ((wb.alloc (.cells #[.int .u8 208, .int .u8 0, .int .u8 0, .int .u8 0] 5)).alloc (.cells #[.int .u8 t0, .int .u8 t1, .int .u8 t2, .int .u8 t3, .int .u8 t4, .int .u8 t5, .int .u8 f0, .int .u8 f1, .int .u8 f2, .int .u8 f3, .int .u8 f4, .int .u8 f5, .int .u8 b0, .int .u8 b1, .int .u8 b2, .int .u8 b3, .int .u8 b4, .int .u8 b5] 25)) (.slice (some ⟨w.heap.size + 1 + 1 + 1, 0, none⟩) 4 4) [208, 0, 0, 0] := ho.gro ((Gro.refl none _).alloc _) (by simp)
  have hg5 : Gro none wb ((wb.alloc (.cells #[.int .u8 208, .int .u8 0, .int .u8 0, .int .u8 0] 5)).alloc (.cells #[.int .u8 t0, .int .u8 t1, .int .u8 t2, .int .u8 t3, .int .u8 t4, .int .u8 t5, .int .u8 f0, .int .u8 f1, .int .u8 f2, .int .u8 f3, .int .u8 f4, .int .u8 f5, .int .u8 b0, .int .u8 b1, .int .u8 b2, .int .u8 b3, .int .u8 b4, .int .u8 b5] 25)) := ((Gro.refl none _).alloc _).alloc _
  generalize ((wb.alloc (.cells #[.int .u8 208, .int .u8 0, .int .u8 0, .int .u8 0] 5)).alloc (.cells #[.int .u8 t0, .int .u8 t1, .int .u8 t2, .int .u8 t3, .int .u8 t4, .int .u8 t5, .int .u8 f0, .int .u8 f1, .int .u8 f2, .int .u8 f3, .int .u8 f4, .int .u8 f5, .int .u8 b0, .int .u8 b1, .int .u8 b2, .int .u8 b3, .int .u8 b4, .int .u8 b5] 25)) = w5 at *
  have hB34 : w.heap.size + 1 + 1 + 1 + 1 ≠ w.heap.size + 1 + 1 + 1 := by omega
  generalize w.heap.size + 1 + 1 + 1 + 1 = B4 at *
  generalize w.heap.size + 1 + 1 + 1 = B3 at *
  have hlt : B4 < w5.heap.size := by
    rcases Nat.lt_or_ge B4 w5.heap.size with h | h
    · exact h
    · rw [Array.getElem?_eq_none h] at h18; cases h18
  have HB4 := Lib.hid (show w5.heap[B4]? = w5.heap[B4]? ∧ some B4 ≠ (Value.slice (some ⟨B3, 0, none⟩) 4 4).ownBlock ∧ B4 < w5.heap.size from ⟨rfl, fun e => hB34 (by simpa [Value.ownBlock] using e), hlt⟩)
  clear hB34
  have HGW := Lib.hid hgw
  have H18 := Lib.hid h18
  have HSTART := Lib.hid (And.intro ho5 hg5)
  clear hgw hsz ho h18 ho5 hg5
  go_loopw [9, 18] (fun v i wr => ∃ k : Nat, k ≤ 3 ∧ i = .int .i64 k ∧ Gro none wb wr ∧ (wr.heap[B4]? = w5.heap[B4]? ∧ some B4 ≠ v.ownBlock ∧ B4 < wr.heap.size) ∧ Own wb.heap.size wr v ([208, 0, 0, 0] ++ addrsL ⟨t0, t1, t2, t3, t4, t5⟩ ⟨f0, f1, f2, f3, f4, f5⟩ ⟨b0, b1, b2, b3, b4, b5⟩ k)) (fun _ i _ => 3 - (intOf i).toNat)
  case atStart => exact ⟨0, by decide, rfl, HSTART.out.2, HB4.out, by simpa [addrsL] using HSTART.out.1⟩
  case round =>
    obtain ⟨k, hk, rfl, hg, ⟨h51, h52, h53⟩, ho⟩ := hrel
    clear HSTART HB4
    have HO := Lib.hid ho
    have HG := Lib.hid hg
    have hb' := h51.trans H18.out
    have H51 := Lib.hid (And.intro h51 h52)
    have hc : ∀ c, wr.cell? ⟨B4, c, none⟩ = _ := fun c => cell_of_row _ _ c _ _ _ hb'
    clear ho hg h51 h52 hb'
    by_cases hk3 : k < 3
    · rcases (show k = 0 ∨ k = 1 ∨ k = 2 from by omega) with rfl | rfl | rfl
      case' inl =>
        have c0 := hc 0; have c1 := hc 1; have c2 := hc 2; have c3 := hc 3; have c4 := hc 4; have c5 := hc 5
        obtain ⟨X, hX⟩ : ∃ X, X = adL ⟨t0, t1, t2, t3, t4, t5⟩ := ⟨_, rfl⟩
        obtain ⟨Y, hY⟩ : ∃ Y, Y = [208, 0, 0, 0] ++ addrsL ⟨t0, t1, t2, t3, t4, t5⟩ ⟨f0, f1, f2, f3, f4, f5⟩ ⟨b0, b1, b2, b3, b4, b5⟩ 0 := ⟨_, rfl⟩
        have hZ : [208, 0, 0, 0] ++ addrsL ⟨t0, t1, t2, t3, t4, t5⟩ ⟨f0, f1, f2, f3, f4, f5⟩ ⟨b0, b1, b2, b3, b4, b5⟩ 1 = Y ++ X := by rw [hX, hY]; simp [addrsL]
      case' inr.inl =>
        have c0 := hc 6; have c1 := hc 7; have c2 := hc 8; have c3 := hc 9; have c4 := hc 10; have c5 := hc 11
        obtain ⟨X, hX⟩ : ∃ X, X = adL ⟨f0, f1, f2, f3, f4, f5⟩ := ⟨_, rfl⟩
        obtain ⟨Y, hY⟩ : ∃ Y, Y = [208, 0, 0, 0] ++ addrsL ⟨t0, t1, t2, t3, t4, t5⟩ ⟨f0, f1, f2, f3, f4, f5⟩ ⟨b0, b1, b2, b3, b4, b5⟩ 1 := ⟨_, rfl⟩
        have hZ : [208, 0, 0, 0] ++ addrsL ⟨t0, t1, t2, t3, t4, t5⟩ ⟨f0, f1, f2, f3, f4, f5⟩ ⟨b0, b1, b2, b3, b4, b5⟩ 2 = Y ++ X := by rw [hX, hY]; simp [addrsL]
      case' inr.inr =>
        have c0 := hc 12; have c1 := hc 13; have c2 := hc 14; have c3 := hc 15; have c4 := hc 16; have c5 := hc 17
        obtain ⟨X, hX⟩ : ∃ X, X = adL ⟨b0, b1, b2, b3, b4, b5⟩ := ⟨_, rfl⟩
        obtain ⟨Y, hY⟩ : ∃ Y, Y = [208, 0, 0, 0] ++ addrsL ⟨t0, t1, t2, t3, t4, t5⟩ ⟨f0, f1, f2, f3, f4, f5⟩ ⟨b0, b1, b2, b3, b4, b5⟩ 2 := ⟨_, rfl⟩
        have hZ : [208, 0, 0, 0] ++ addrsL ⟨t0, t1, t2, t3, t4, t5⟩ ⟨f0, f1, f2, f3, f4, f5⟩ ⟨b0, b1, b2, b3, b4, b5⟩ 3 = Y ++ X := by rw [hX, hY]; simp [addrsL]
      all_goals
        rw [← hY] at HO
        have hlY : Y.length ≤ 100 := by rw [hY]; simp [addrsL, adL]
        have HLY := Lib.hid hlY
        have HX := Lib.hid hX
        have HZ := Lib.hid hZ
        clear hc hY hZ hX hlY
        simp at c0 c1 c2 c3 c4 c5
        go_wp2_with (at_builtin; refine app_bytes_at rfl _ _ rfl wb Y X _ rfl ?c1 ?c2 _ _ _ rfl ?c5 ?c3 ?c4 ?_)
        case c1 => exact HO.out.gro ((Gro.refl none _).alloc _) (by simp)
        case c2 => exact HG.out.alloc _
        case c5 => rw [HX.out]; rfl
        case c3 => rw [HX.out]; exact lie_six wr _ _ _ _ _ _ _ _ _ rfl (Gro.refl _ _)
        case c4 => have := HLY.out; omega
        intro v2 w2 ho2 hg2 hf2
        have HO2 := Lib.hid ho2
        have h6 := hf2 B4 (by first | omega | (simp; omega)) H51.out.2
        rw [Below.heap_alloc _ _ _ h53] at h6
        have HG2 := Lib.hid (And.intro hg2 (show w2.heap[B4]? = w5.heap[B4]? ∧ some B4 ≠ v2.ownBlock ∧ B4 < w2.heap.size from ⟨h6.1.trans H51.out.1, h6.2, by
          rcases Nat.lt_or_ge B4 w2.heap.size with h | h
          · exact h
          · have := h6.1.trans (H51.out.1.trans H18.out)
            rw [Array.getElem?_eq_none h] at this; cases this⟩))
        clear ho2 hg2 HO HG hf2 h6 H51
        go_wp2_with fail
        go_roundw
        case rel => exact ⟨_, Nat.succ_le_of_lt hk3, by go_num, HG2.out.1, HG2.out.2, by rw [HZ.out]; exact HO2.out⟩
        case measure => simp [intOf]
    · obtain rfl : k = 3 := by omega
      clear hc
      obtain ⟨Y, hY⟩ : ∃ Y, Y = [208, 0, 0, 0] ++ addrsL ⟨t0, t1, t2, t3, t4, t5⟩ ⟨f0, f1, f2, f3, f4, f5⟩ ⟨b0, b1, b2, b3, b4, b5⟩ 3 := ⟨_, rfl⟩
      rw [← hY] at HO HL
      have HLY := Lib.hid (show Y.length ≤ 100 by rw [hY]; simp [addrsL, adL])
      clear hY
      obtain ⟨X, hX⟩ : ∃ X, X = [0, 0, 3, what] := ⟨_, rfl⟩
      rw [← hX] at HL
      have HX := Lib.hid hX
      clear hX
      go_wp2_with (at_builtin; refine app_bytes rfl _ _ rfl wb Y X _ rfl ?c1 ?c2 _ _ _ rfl ?c5 ?c3 ?c4 ?_)
      case c1 => exact HO.out.gro ((Gro.refl none _).alloc _) (by simp)
      case c2 => exact HG.out.alloc _
      case c5 => rw [HX.out]; rfl
      case c3 => rw [HX.out]; exact lie_four wr _ _ _ _ _ _ rfl (Gro.refl _ _)
      case c4 => have := HLY.out; omega
      intro v2 w2 ho2 hg2
      have HO2 := Lib.hid ho2
      have HG2 := Lib.hid hg2
      clear ho2 hg2 HO HG
      go_wp2_with fail
      go_ret
      exact ⟨_, rfl, HGW.out.trans HG2.out, by rw [HL.out]; exact HO2.out.weak HGW.out.size⟩
end Go.Proofs.YtflckkeaakmojaaDoor
