/-
  THE WALK OF act.DelBytes, the good way. Conditions: the numbers may be.
-/
import Derived.Test.YtflckkeaakmojaaDoorActW
namespace Go.Proofs.YtflckkeaakmojaaDoor
open Go.RowKit

set_option maxHeartbeats 4000000 in
set_option maxRecDepth 100000 in
theorem del_any (to fr bs : Ad) (mine : Bool) (tid reason : Int) (w : World) (h : okD tid reason) :
    Calls Tryd.prog 10 #[delV to fr bs mine tid reason] w fun e w' => ∃ v, e = .returned (.tuple #[v, .nilIface]) ∧ Gro none w w' ∧ Own w.heap.size w' v (delL to fr bs mine tid reason) := by
  obtain ⟨⟨h0, h1⟩, h2, h3⟩ := h
  have HFA := Lib.hid (fun w => front_any to fr bs 2 w)
  have HFF := Lib.hid (show (frontL to fr bs 2).length = 26 by simp [frontL, adL])
  have HAL := Lib.hid (show delL to fr bs mine tid reason = frontL to fr bs 2 ++ twoL (tid * 4096 + if mine then 2048 else 0) ++ twoL reason from rfl)
  generalize delL to fr bs mine tid reason = AL at *
  generalize frontL to fr bs 2 = FL at *
  have w1 : IntKind.i64.wrap (tid * 4096) = tid * 4096 := by simp [IntKind.wrap, IntKind.bits, IntKind.signed]; omega
  have w2 : IntKind.i64.wrap (tid * 4096 + 2048) = tid * 4096 + 2048 := by simp [IntKind.wrap, IntKind.bits, IntKind.signed]; omega
  obtain ⟨t0, t1, t2, t3, t4, t5⟩ := to
  obtain ⟨f0, f1, f2, f3, f4, f5⟩ := fr
  obtain ⟨b0, b1, b2, b3, b4, b5⟩ := bs
  unfold delV
  unfold adV at HFA
  simp only at HFA ⊢
  have Ttid := Lib.hid (fun w => top_in tid 7 w (by omega) (by omega))
  have Treason := Lib.hid (fun w => top_in reason 65535 w (by omega) (by omega))
  go_enter Tryd.func10, Tryd.ntmps10
  go_wp2_with fail
  have hgw : Gro none w (w.alloc (.cells #[.int .u8 t0, .int .u8 t1, .int .u8 t2, .int .u8 t3, .int .u8 t4, .int .u8 t5, .int .u8 f0, .int .u8 f1, .int .u8 f2, .int .u8 f3, .int .u8 f4, .int .u8 f5, .int .u8 b0, .int .u8 b1, .int .u8 b2, .int .u8 b3, .int .u8 b4, .int .u8 b5, .bool mine, .int .i64 tid, .int .i64 reason] 36)) := (Gro.refl _ _).alloc _
  have hbr := heap_alloc_new w (.cells #[.int .u8 t0, .int .u8 t1, .int .u8 t2, .int .u8 t3, .int .u8 t4, .int .u8 t5, .int .u8 f0, .int .u8 f1, .int .u8 f2, .int .u8 f3, .int .u8 f4, .int .u8 f5, .int .u8 b0, .int .u8 b1, .int .u8 b2, .int .u8 b3, .int .u8 b4, .int .u8 b5, .bool mine, .int .i64 tid, .int .i64 reason] 36)
  have hlw : w.heap.size < (w.alloc (.cells #[.int .u8 t0, .int .u8 t1, .int .u8 t2, .int .u8 t3, .int .u8 t4, .int .u8 t5, .int .u8 f0, .int .u8 f1, .int .u8 f2, .int .u8 f3, .int .u8 f4, .int .u8 f5, .int .u8 b0, .int .u8 b1, .int .u8 b2, .int .u8 b3, .int .u8 b4, .int .u8 b5, .bool mine, .int .i64 tid, .int .i64 reason] 36)).heap.size := by simp
  generalize w.alloc (.cells #[.int .u8 t0, .int .u8 t1, .int .u8 t2, .int .u8 t3, .int .u8 t4, .int .u8 t5, .int .u8 f0, .int .u8 f1, .int .u8 f2, .int .u8 f3, .int .u8 f4, .int .u8 f5, .int .u8 b0, .int .u8 b1, .int .u8 b2, .int .u8 b3, .int .u8 b4, .int .u8 b5, .bool mine, .int .i64 tid, .int .i64 reason] 36) = wb at *
  have HALL : Hid (∀ w', Gro none wb w' → (fun w' => Gro none wb w' ∧ w'.cell? ⟨w.heap.size, 0, none⟩ = some (.int .u8 t0) ∧ w'.cell? ⟨w.heap.size, 1, none⟩ = some (.int .u8 t1) ∧ w'.cell? ⟨w.heap.size, 2, none⟩ = some (.int .u8 t2) ∧ w'.cell? ⟨w.heap.size, 3, none⟩ = some (.int .u8 t3) ∧ w'.cell? ⟨w.heap.size, 4, none⟩ = some (.int .u8 t4) ∧ w'.cell? ⟨w.heap.size, 5, none⟩ = some (.int .u8 t5) ∧ w'.cell? ⟨w.heap.size, 6, none⟩ = some (.int .u8 f0) ∧ w'.cell? ⟨w.heap.size, 7, none⟩ = some (.int .u8 f1) ∧ w'.cell? ⟨w.heap.size, 8, none⟩ = some (.int .u8 f2) ∧ w'.cell? ⟨w.heap.size, 9, none⟩ = some (.int .u8 f3) ∧ w'.cell? ⟨w.heap.size, 10, none⟩ = some (.int .u8 f4) ∧ w'.cell? ⟨w.heap.size, 11, none⟩ = some (.int .u8 f5) ∧ w'.cell? ⟨w.heap.size, 12, none⟩ = some (.int .u8 b0) ∧ w'.cell? ⟨w.heap.size, 13, none⟩ = some (.int .u8 b1) ∧ w'.cell? ⟨w.heap.size, 14, none⟩ = some (.int .u8 b2) ∧ w'.cell? ⟨w.heap.size, 15, none⟩ = some (.int .u8 b3) ∧ w'.cell? ⟨w.heap.size, 16, none⟩ = some (.int .u8 b4) ∧ w'.cell? ⟨w.heap.size, 17, none⟩ = some (.int .u8 b5) ∧ w'.cell? ⟨w.heap.size, 18, none⟩ = some (.bool mine) ∧ w'.cell? ⟨w.heap.size, 19, none⟩ = some (.int .i64 tid) ∧ w'.cell? ⟨w.heap.size, 20, none⟩ = some (.int .i64 reason)) w') := fun w' k => by
    have hb := (k.block w.heap.size hlw (by simp)).trans hbr
    exact ⟨k, cell_of_row _ _ 0 _ _ _ hb, cell_of_row _ _ 1 _ _ _ hb, cell_of_row _ _ 2 _ _ _ hb, cell_of_row _ _ 3 _ _ _ hb, cell_of_row _ _ 4 _ _ _ hb, cell_of_row _ _ 5 _ _ _ hb, cell_of_row _ _ 6 _ _ _ hb, cell_of_row _ _ 7 _ _ _ hb, cell_of_row _ _ 8 _ _ _ hb, cell_of_row _ _ 9 _ _ _ hb, cell_of_row _ _ 10 _ _ _ hb, cell_of_row _ _ 11 _ _ _ hb, cell_of_row _ _ 12 _ _ _ hb, cell_of_row _ _ 13 _ _ _ hb, cell_of_row _ _ 14 _ _ _ hb, cell_of_row _ _ 15 _ _ _ hb, cell_of_row _ _ 16 _ _ _ hb, cell_of_row _ _ 17 _ _ _ hb, cell_of_row _ _ 18 _ _ _ hb, cell_of_row _ _ 19 _ _ _ hb, cell_of_row _ _ 20 _ _ _ hb⟩
  have HGW := Lib.hid hgw
  clear hgw hbr
  have q18 := (HALL.out _ (Gro.refl _ _)).2.2.2.2.2.2.2.2.2.2.2.2.2.2.2.2.2.2.2.1
  have q19 := (HALL.out _ (Gro.refl _ _)).2.2.2.2.2.2.2.2.2.2.2.2.2.2.2.2.2.2.2.2.1
  have q20 := (HALL.out _ (Gro.refl _ _)).2.2.2.2.2.2.2.2.2.2.2.2.2.2.2.2.2.2.2.2.2
  refine (Ttid.out _).mono ?_
  rintro e w' ⟨rfl, rfl⟩
  go_wp2_with fail
  refine (Treason.out _).mono ?_
  rintro e w' ⟨rfl, rfl⟩
  clear Ttid Treason
  have HFR : Hid (∀ W, Gro none wb W → Calls Tryd.prog 22 #[.agg #[.int .u8 t0, .int .u8 t1, .int .u8 t2, .int .u8 t3, .int .u8 t4, .int .u8 t5], .agg #[.int .u8 f0, .int .u8 f1, .int .u8 f2, .int .u8 f3, .int .u8 f4, .int .u8 f5], .agg #[.int .u8 b0, .int .u8 b1, .int .u8 b2, .int .u8 b3, .int .u8 b4, .int .u8 b5], .int .u8 2] W fun e w' => ∃ v, e = .returned v ∧ Own wb.heap.size w' v FL ∧ Gro none wb w') := fun W k => (HFA.out W).mono fun e w' ⟨v, he, hg, ho⟩ => ⟨v, he, ho.weak k.size, k.trans hg⟩
  clear HFA
  obtain ⟨Y2, hY2⟩ : ∃ Y, Y = twoL reason := ⟨_, rfl⟩
  have HY2 := Lib.hid hY2
  have HL2 : Hid (Y2.length = 2) := by rw [hY2]; rfl
  have HT2 : Hid (∀ W v X, Gro none wb W → Own wb.heap.size W v X → Calls Tryd.prog 23 #[.int .i64 reason] W fun e w' => e = .returned (.slice (some ⟨W.heap.size, 0, none⟩) 2 2) ∧ LieA w' ⟨W.heap.size, 0, none⟩ Y2 ∧ Own wb.heap.size w' v X ∧ Gro none wb w') := fun W v X k ho => (two_any reason W (by omega) (by omega)).mono fun e w' ⟨he, hl, hg⟩ => ⟨he, hY2 ▸ hl, ho.gro hg (by simp), k.trans hg⟩
  clear hY2
  cases mine
  · obtain ⟨Y1, hY1⟩ : ∃ Y, Y = twoL (tid * 4096) := ⟨_, rfl⟩
    have HY1 := Lib.hid hY1
    have HL1 : Hid (Y1.length = 2) := by rw [hY1]; rfl
    have HT1 : Hid (∀ W v X, Gro none wb W → Own wb.heap.size W v X → Calls Tryd.prog 23 #[.int .i64 (tid * 4096)] W fun e w' => e = .returned (.slice (some ⟨W.heap.size, 0, none⟩) 2 2) ∧ LieA w' ⟨W.heap.size, 0, none⟩ Y1 ∧ Own wb.heap.size w' v X ∧ Gro none wb w') := fun W v X k ho => (two_any (tid * 4096) W (by omega) (by omega)).mono fun e w' ⟨he, hl, hg⟩ => ⟨he, hY1 ▸ hl, ho.gro hg (by simp), k.trans hg⟩
    clear hY1
    go_wp2_with fail
    clear q18 q19 q20
    go_region_held3 (fun w' => Gro none wb w' ∧ w'.cell? ⟨w.heap.size, 0, none⟩ = some (.int .u8 t0) ∧ w'.cell? ⟨w.heap.size, 1, none⟩ = some (.int .u8 t1) ∧ w'.cell? ⟨w.heap.size, 2, none⟩ = some (.int .u8 t2) ∧ w'.cell? ⟨w.heap.size, 3, none⟩ = some (.int .u8 t3) ∧ w'.cell? ⟨w.heap.size, 4, none⟩ = some (.int .u8 t4) ∧ w'.cell? ⟨w.heap.size, 5, none⟩ = some (.int .u8 t5) ∧ w'.cell? ⟨w.heap.size, 6, none⟩ = some (.int .u8 f0) ∧ w'.cell? ⟨w.heap.size, 7, none⟩ = some (.int .u8 f1) ∧ w'.cell? ⟨w.heap.size, 8, none⟩ = some (.int .u8 f2) ∧ w'.cell? ⟨w.heap.size, 9, none⟩ = some (.int .u8 f3) ∧ w'.cell? ⟨w.heap.size, 10, none⟩ = some (.int .u8 f4) ∧ w'.cell? ⟨w.heap.size, 11, none⟩ = some (.int .u8 f5) ∧ w'.cell? ⟨w.heap.size, 12, none⟩ = some (.int .u8 b0) ∧ w'.cell? ⟨w.heap.size, 13, none⟩ = some (.int .u8 b1) ∧ w'.cell? ⟨w.heap.size, 14, none⟩ = some (.int .u8 b2) ∧ w'.cell? ⟨w.heap.size, 15, none⟩ = some (.int .u8 b3) ∧ w'.cell? ⟨w.heap.size, 16, none⟩ = some (.int .u8 b4) ∧ w'.cell? ⟨w.heap.size, 17, none⟩ = some (.int .u8 b5) ∧ w'.cell? ⟨w.heap.size, 18, none⟩ = some (.bool false) ∧ w'.cell? ⟨w.heap.size, 19, none⟩ = some (.int .i64 tid) ∧ w'.cell? ⟨w.heap.size, 20, none⟩ = some (.int .i64 reason)) ((exact HALL.out _ (by repeat (first | assumption | with_reducible exact Gro.refl _ _ | with_reducible refine Gro.drewN ?_ _ | with_reducible refine Gro.drew ?_ | with_reducible refine Gro.alloc ?_ _)))) (first | (go_at_call 22; refine (HFR.out _ (by repeat (first | assumption | with_reducible exact Gro.refl _ _ | with_reducible refine Gro.drewN ?_ _ | with_reducible refine Gro.drew ?_ | with_reducible refine Gro.alloc ?_ _))).mono ?_; rintro e w' ⟨v', rfl, ho, hg⟩) | (go_at_call 23; refine (HT1.out _ _ _ (by repeat (first | assumption | with_reducible exact Gro.refl _ _ | with_reducible refine Gro.drewN ?_ _ | with_reducible refine Gro.drew ?_ | with_reducible refine Gro.alloc ?_ _)) (by assumption)).mono ?_; rintro e w' ⟨rfl, hl, ho, hg⟩) | (go_at_call 23; refine (HT2.out _ _ _ (by repeat (first | assumption | with_reducible exact Gro.refl _ _ | with_reducible refine Gro.drewN ?_ _ | with_reducible refine Gro.drew ?_ | with_reducible refine Gro.alloc ?_ _)) (by assumption)).mono ?_; rintro e w' ⟨rfl, hl, ho, hg⟩) | (refine step_app (by rfl) _ _ (by rfl) wb FL Y1 _ (by rfl) (by assumption) (by repeat (first | assumption | with_reducible exact Gro.refl _ _ | with_reducible refine Gro.drewN ?_ _ | with_reducible refine Gro.drew ?_ | with_reducible refine Gro.alloc ?_ _)) _ _ _ (by rfl) (by exact HL1.out) (by assumption) (by have := HFF.out; omega) ?_; intro v' w' ho hg) | (refine step_app (by rfl) _ _ (by rfl) wb (FL ++ Y1) Y2 _ (by rfl) (by assumption) (by repeat (first | assumption | with_reducible exact Gro.refl _ _ | with_reducible refine Gro.drewN ?_ _ | with_reducible refine Gro.drew ?_ | with_reducible refine Gro.alloc ?_ _)) _ _ _ (by rfl) (by exact HL2.out) (by assumption) (by have := HFF.out; have := HL1.out; simp only [List.length_append]; omega) ?_; intro v' w' ho hg))
    all_goals
      have HO := Lib.hid ho
      have HG := Lib.hid hg
      clear ho hg HT1 HT2 HFR
      (try go_wp2_with fail)
      go_ret2
      refine ⟨_, rfl, HGW.out.trans HG.out, ?_⟩
      have h := HO.out.weak (Nat.le_of_lt hlw)
      rw [HAL.out]
      rw [HY1.out, HY2.out] at h
      simpa using h
  · obtain ⟨Y1, hY1⟩ : ∃ Y, Y = twoL (tid * 4096 + 2048) := ⟨_, rfl⟩
    have HY1 := Lib.hid hY1
    have HL1 : Hid (Y1.length = 2) := by rw [hY1]; rfl
    have HT1 : Hid (∀ W v X, Gro none wb W → Own wb.heap.size W v X → Calls Tryd.prog 23 #[.int .i64 (tid * 4096 + 2048)] W fun e w' => e = .returned (.slice (some ⟨W.heap.size, 0, none⟩) 2 2) ∧ LieA w' ⟨W.heap.size, 0, none⟩ Y1 ∧ Own wb.heap.size w' v X ∧ Gro none wb w') := fun W v X k ho => (two_any (tid * 4096 + 2048) W (by omega) (by omega)).mono fun e w' ⟨he, hl, hg⟩ => ⟨he, hY1 ▸ hl, ho.gro hg (by simp), k.trans hg⟩
    clear hY1
    go_wp2_with fail
    clear q18 q19 q20
    go_region_held3 (fun w' => Gro none wb w' ∧ w'.cell? ⟨w.heap.size, 0, none⟩ = some (.int .u8 t0) ∧ w'.cell? ⟨w.heap.size, 1, none⟩ = some (.int .u8 t1) ∧ w'.cell? ⟨w.heap.size, 2, none⟩ = some (.int .u8 t2) ∧ w'.cell? ⟨w.heap.size, 3, none⟩ = some (.int .u8 t3) ∧ w'.cell? ⟨w.heap.size, 4, none⟩ = some (.int .u8 t4) ∧ w'.cell? ⟨w.heap.size, 5, none⟩ = some (.int .u8 t5) ∧ w'.cell? ⟨w.heap.size, 6, none⟩ = some (.int .u8 f0) ∧ w'.cell? ⟨w.heap.size, 7, none⟩ = some (.int .u8 f1) ∧ w'.cell? ⟨w.heap.size, 8, none⟩ = some (.int .u8 f2) ∧ w'.cell? ⟨w.heap.size, 9, none⟩ = some (.int .u8 f3) ∧ w'.cell? ⟨w.heap.size, 10, none⟩ = some (.int .u8 f4) ∧ w'.cell? ⟨w.heap.size, 11, none⟩ = some (.int .u8 f5) ∧ w'.cell? ⟨w.heap.size, 12, none⟩ = some (.int .u8 b0) ∧ w'.cell? ⟨w.heap.size, 13, none⟩ = some (.int .u8 b1) ∧ w'.cell? ⟨w.heap.size, 14, none⟩ = some (.int .u8 b2) ∧ w'.cell? ⟨w.heap.size, 15, none⟩ = some (.int .u8 b3) ∧ w'.cell? ⟨w.heap.size, 16, none⟩ = some (.int .u8 b4) ∧ w'.cell? ⟨w.heap.size, 17, none⟩ = some (.int .u8 b5) ∧ w'.cell? ⟨w.heap.size, 18, none⟩ = some (.bool true) ∧ w'.cell? ⟨w.heap.size, 19, none⟩ = some (.int .i64 tid) ∧ w'.cell? ⟨w.heap.size, 20, none⟩ = some (.int .i64 reason)) ((exact HALL.out _ (by repeat (first | assumption | with_reducible exact Gro.refl _ _ | with_reducible refine Gro.drewN ?_ _ | with_reducible refine Gro.drew ?_ | with_reducible refine Gro.alloc ?_ _)))) (first | (go_at_call 22; refine (HFR.out _ (by repeat (first | assumption | with_reducible exact Gro.refl _ _ | with_reducible refine Gro.drewN ?_ _ | with_reducible refine Gro.drew ?_ | with_reducible refine Gro.alloc ?_ _))).mono ?_; rintro e w' ⟨v', rfl, ho, hg⟩) | (go_at_call 23; refine (HT1.out _ _ _ (by repeat (first | assumption | with_reducible exact Gro.refl _ _ | with_reducible refine Gro.drewN ?_ _ | with_reducible refine Gro.drew ?_ | with_reducible refine Gro.alloc ?_ _)) (by assumption)).mono ?_; rintro e w' ⟨rfl, hl, ho, hg⟩) | (go_at_call 23; refine (HT2.out _ _ _ (by repeat (first | assumption | with_reducible exact Gro.refl _ _ | with_reducible refine Gro.drewN ?_ _ | with_reducible refine Gro.drew ?_ | with_reducible refine Gro.alloc ?_ _)) (by assumption)).mono ?_; rintro e w' ⟨rfl, hl, ho, hg⟩) | (refine step_app (by rfl) _ _ (by rfl) wb FL Y1 _ (by rfl) (by assumption) (by repeat (first | assumption | with_reducible exact Gro.refl _ _ | with_reducible refine Gro.drewN ?_ _ | with_reducible refine Gro.drew ?_ | with_reducible refine Gro.alloc ?_ _)) _ _ _ (by rfl) (by exact HL1.out) (by assumption) (by have := HFF.out; omega) ?_; intro v' w' ho hg) | (refine step_app (by rfl) _ _ (by rfl) wb (FL ++ Y1) Y2 _ (by rfl) (by assumption) (by repeat (first | assumption | with_reducible exact Gro.refl _ _ | with_reducible refine Gro.drewN ?_ _ | with_reducible refine Gro.drew ?_ | with_reducible refine Gro.alloc ?_ _)) _ _ _ (by rfl) (by exact HL2.out) (by assumption) (by have := HFF.out; have := HL1.out; simp only [List.length_append]; omega) ?_; intro v' w' ho hg))
    all_goals
      have HO := Lib.hid ho
      have HG := Lib.hid hg
      clear ho hg HT1 HT2 HFR
      (try go_wp2_with fail)
      go_ret2
      refine ⟨_, rfl, HGW.out.trans HG.out, ?_⟩
      have h := HO.out.weak (Nat.le_of_lt hlw)
      rw [HAL.out]
      rw [HY1.out, HY2.out] at h
      simpa using h
end Go.Proofs.YtflckkeaakmojaaDoor
