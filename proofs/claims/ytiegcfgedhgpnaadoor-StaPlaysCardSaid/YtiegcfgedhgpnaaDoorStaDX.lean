/-
  THE DOCUMENT's TABLE OF CHAPTER 22 WALKED, MORE: Del of one that is there, Add. Conditions: the block is whole ('DTab').
-/
import Derived.Test.YtiegcfgedhgpnaaDoorStaDM
namespace Go.Proofs.YtiegcfgedhgpnaaDoor
open Go.RowKit

theorem DTab.drew {b : Nat} {w : World} {T : Nat → Sone} (h : DTab b w T) : DTab b w.drew T := h
theorem DTab.at_same {b : Nat} {w : World} {T T' : Nat → Sone} (h : DTab b w T) (e : T = T') : DTab b w T' := e ▸ h
/-- The cells of number K. -/
theorem DTab.cellsK {b : Nat} {w : World} {T : Nat → Sone} (h : DTab b w T) (j : Nat) (hj : j < 16) (K : Nat) (hK : K = j + 1) :
    w.cell? ⟨b, K * 6, none⟩ = some (.int .u8 (T j).a.b0) ∧ w.cell? ⟨b, K * 6 + 1, none⟩ = some (.int .u8 (T j).a.b1) ∧ w.cell? ⟨b, K * 6 + 2, none⟩ = some (.int .u8 (T j).a.b2) ∧ w.cell? ⟨b, K * 6 + 3, none⟩ = some (.int .u8 (T j).a.b3) ∧ w.cell? ⟨b, K * 6 + 4, none⟩ = some (.int .u8 (T j).a.b4) ∧ w.cell? ⟨b, K * 6 + 5, none⟩ = some (.int .u8 (T j).a.b5) ∧
      w.cell? ⟨b, 102 + K, none⟩ = some (.bool (T j).th) ∧ w.cell? ⟨b, 119 + K, none⟩ = some (.int .i64 (T j).ep) := by
  subst hK
  have h0 := h.addr j hj 0 (by decide)
  have h1 := h.addr j hj 1 (by decide)
  have h2 := h.addr j hj 2 (by decide)
  have h3 := h.addr j hj 3 (by decide)
  have h4 := h.addr j hj 4 (by decide)
  have h5 := h.addr j hj 5 (by decide)
  have h6 := h.there j hj
  have h7 := h.epoch j hj
  rw [Nat.mul_comm] at h0 h1 h2 h3 h4 h5
  rw [show 103 + j = 102 + (j + 1) by omega] at h6
  rw [show 120 + j = 119 + (j + 1) by omega] at h7
  exact ⟨h0, h1, h2, h3, h4, h5, h6, h7⟩
/-- What the two stores of Del leave. -/
theorem DTab.gone {b : Nat} {w : World} {T : Nat → Sone} (h : DTab b w T) (j : Nat) (hj : j < 16) (K : Nat) (hK : K = j + 1) (x : Bool) (a : Ad) :
    DTab b ((((((((w.setCell ⟨b, 102 + K, none⟩ (.bool x)).setCell ⟨b, K * 6, none⟩ (.int .u8 a.b0)).setCell ⟨b, K * 6 + 1, none⟩ (.int .u8 a.b1)).setCell ⟨b, K * 6 + 2, none⟩ (.int .u8 a.b2)).setCell ⟨b, K * 6 + 3, none⟩ (.int .u8 a.b3)).setCell ⟨b, K * 6 + 4, none⟩ (.int .u8 a.b4)).setCell ⟨b, K * 6 + 5, none⟩ (.int .u8 a.b5))) (updT T j ⟨x, a, (T j).ep⟩) := by
  subst hK
  have h1 := (h.setThere j hj x).setAddr j hj a
  rw [updT_same, updT_updT, show 103 + j = 102 + (j + 1) by omega, Nat.mul_comm] at h1
  exact h1
/-- What the three stores of Add leave. -/
theorem DTab.come {b : Nat} {w : World} {T : Nat → Sone} (h : DTab b w T) (j : Nat) (hj : j < 16) (K : Nat) (hK : K = j + 1) (x : Bool) (a : Ad) (e : Int) :
    DTab b ((((((((w.setCell ⟨b, 102 + K, none⟩ (.bool x)).setCell ⟨b, K * 6, none⟩ (.int .u8 a.b0)).setCell ⟨b, K * 6 + 1, none⟩ (.int .u8 a.b1)).setCell ⟨b, K * 6 + 2, none⟩ (.int .u8 a.b2)).setCell ⟨b, K * 6 + 3, none⟩ (.int .u8 a.b3)).setCell ⟨b, K * 6 + 4, none⟩ (.int .u8 a.b4)).setCell ⟨b, K * 6 + 5, none⟩ (.int .u8 a.b5)).setCell ⟨b, 119 + K, none⟩ (.int .i64 e)) (updT T j ⟨x, a, e⟩) := by
  have h1 := (h.gone j hj K hK x a).setEpoch j hj e
  rw [updT_same, updT_updT, show 120 + j = 119 + K by omega] at h1
  exact h1
theorem ddel_there (b : Nat) (a : Int) (j : Nat) (w : World) (T : Nat → Sone) (h : DTab b w T) (hj : j < 16) (ha : a = j + 1) (ht : (T j).th = true) :
    Calls Tryd.prog 17 #[.pointer (some ⟨b, 0, none⟩), .int .i64 a] w fun e w' => e = .returned (.int .i64 0) ∧ Gro (some b) w w' ∧ DTab b w' (updT T j ⟨false, adZ, (T j).ep⟩) := by
  obtain ⟨K, hK⟩ : ∃ K, K = j + 1 := ⟨_, rfl⟩
  obtain rfl : a = (K : Int) := by omega
  have HA := Lib.hid (daid_any (K : Int) w)
  rw [decide_eq_true (by omega)] at HA
  have HC := Lib.hid (fun w' (k : Gro none w w') => And.intro ((h.gro k (by simp)).cellsK j hj K hK) (And.intro ((h.gro k (by simp)).gone j hj K hK false adZ) (h.gro k (by simp)).fr))
  rw [ht] at HC
  have i0 : (0 : Int) ≤ (K : Int) := by omega
  have i2 : (K : Int) < 17 := by omega
  have hblt := h.lt
  clear h ht hj ha hK
  generalize T j = o at *
  unfold adZ at *
  simp only at HC
  go_enter Tryd.func17, Tryd.ntmps17
  go_wp2_with fail
  refine HA.out.mono ?_
  rintro e w1 ⟨rfl, hg⟩
  obtain ⟨⟨c0, c1, c2, c3, c4, c5, c6, c7⟩, hP, fr⟩ := HC.out _ hg
  have HP := Lib.hid hP
  clear hP HC HA
  have HG := Lib.hid (hg.weak (row := some b))
  have hblt1 : b < w1.heap.size := Nat.lt_of_lt_of_le hblt hg.size
  clear hg
  go_wp2_with fail
  go_ret
  exact ⟨rfl, ((((((HG.out.setCell _ _).setCell _ _).setCell _ _).setCell _ _).setCell _ _).setCell _ _).setCell _ _, HP.out⟩
theorem dadd_unfair (p : Value) (x : Ad) (w : World) (h0 : 0 ≤ x.b0) (h1 : x.b0 < 256) (hf : fairA x = false) :
    Calls Tryd.prog 16 #[p, adV x] w fun e w' => e = .returned (.tuple #[.int .i64 0, .int .i64 103]) ∧ Gro none w w' := by
  have hfa := Lib.hid (fun w : World => dright_any x w h0 h1)
  rw [hf] at hfa
  obtain ⟨x0, x1, x2, x3, x4, x5⟩ := x
  unfold adV at *
  simp only at *
  go_enter Tryd.func16, Tryd.ntmps16
  go_wp2_with fail
  refine (hfa.out _).mono ?_
  rintro e w2 ⟨rfl, h2⟩
  have HG := Lib.hid (((Gro.refl none w).alloc _).trans h2)
  clear h2
  go_wp2_with fail
  go_ret2
  exact ⟨rfl, HG.out⟩
theorem dadd_twice (b : Nat) (x : Ad) (m : Nat) (w : World) (T : Nat → Sone) (h : DTab b w T) (h0 : 0 ≤ x.b0) (h1 : x.b0 < 256) (hf : fairA x = true) (hm : m < 16) (hno : ∀ k, k < m → hitB T x k = false) (hyes : hitB T x m = true) :
    Calls Tryd.prog 16 #[.pointer (some ⟨b, 0, none⟩), adV x] w fun e w' => e = .returned (.tuple #[.int .i64 0, .int .i64 108]) ∧ Gro none w w' := by
  have hfa := Lib.hid (fun w : World => dright_any x w h0 h1)
  rw [hf] at hfa
  have hfi := Lib.hid (fun (w : World) (h : DTab b w T) => dfind_any b x m w T h (by omega) hno (fun _ => hyes))
  have hfp : 0 < findI m := by
    unfold findI
    rw [if_pos hm]
    omega
  generalize findI m = fi at *
  obtain ⟨x0, x1, x2, x3, x4, x5⟩ := x
  unfold adV at *
  simp only at *
  have hw : Hid (∀ w', Gro none (w.alloc (.cells #[.int .u8 x0, .int .u8 x1, .int .u8 x2, .int .u8 x3, .int .u8 x4, .int .u8 x5] 25)) w' → Gro none w w' ∧ DTab b w' T) := by
    intro w' k
    have hg : Gro none w w' := ((Gro.refl none w).alloc _).trans k
    exact ⟨hg, h.gro hg (by simp)⟩
  have hbx : Hid (∀ w', Gro none (w.alloc (.cells #[.int .u8 x0, .int .u8 x1, .int .u8 x2, .int .u8 x3, .int .u8 x4, .int .u8 x5] 25)) w' → _) := fun w' k => box_cells (x := ⟨x0, x1, x2, x3, x4, x5⟩) rfl k
  clear h hno hyes hf hm
  go_enter Tryd.func16, Tryd.ntmps16
  go_wp2_with fail
  refine (hfa.out _).mono ?_
  rintro e w2 ⟨rfl, h2⟩
  obtain ⟨hg2, hT2⟩ := hw.out _ h2
  obtain ⟨c0, c1, c2, c3, c4, c5, hBlt⟩ := hbx.out _ h2
  have HT2 := Lib.hid hT2
  clear hT2
  go_wp2_with fail
  refine (hfi.out _ HT2.out).mono ?_
  rintro e w3 ⟨rfl, h3⟩
  have HG := Lib.hid (hw.out _ (h2.trans h3)).1
  clear h2 h3 hg2 c0 c1 c2 c3 c4 c5 hBlt HT2
  go_wp2_with fail
  go_ret2
  exact ⟨rfl, HG.out⟩
theorem dadd_full (b : Nat) (x : Ad) (w : World) (T : Nat → Sone) (h : DTab b w T) (h0 : 0 ≤ x.b0) (h1 : x.b0 < 256) (hf : fairA x = true) (hno : ∀ k, k < 16 → hitB T x k = false) (hfull : ∀ k, k < 16 → (T k).th = true) :
    Calls Tryd.prog 16 #[.pointer (some ⟨b, 0, none⟩), adV x] w fun e w' => e = .returned (.tuple #[.int .i64 0, .int .i64 109]) ∧ Gro none w w' := by
  have hfa := Lib.hid (fun w : World => dright_any x w h0 h1)
  rw [hf] at hfa
  have hfi := Lib.hid (fun (w : World) (h : DTab b w T) => dfind_any b x 16 w T h (by omega) hno (by omega))
  rw [show findI 16 = 0 from rfl] at hfi
  obtain ⟨x0, x1, x2, x3, x4, x5⟩ := x
  unfold adV at *
  simp only at *
  have hw : Hid (∀ w', Gro none (w.alloc (.cells #[.int .u8 x0, .int .u8 x1, .int .u8 x2, .int .u8 x3, .int .u8 x4, .int .u8 x5] 25)) w' → Gro none w w' ∧ DTab b w' T) := by
    intro w' k
    have hg : Gro none w w' := ((Gro.refl none w).alloc _).trans k
    exact ⟨hg, h.gro hg (by simp)⟩
  have hbx : Hid (∀ w', Gro none (w.alloc (.cells #[.int .u8 x0, .int .u8 x1, .int .u8 x2, .int .u8 x3, .int .u8 x4, .int .u8 x5] 25)) w' → _) := fun w' k => box_cells (x := ⟨x0, x1, x2, x3, x4, x5⟩) rfl k
  have HF := Lib.hid hfull
  clear h hno hf hfull
  go_enter Tryd.func16, Tryd.ntmps16
  go_wp2_with fail
  refine (hfa.out _).mono ?_
  rintro e w2 ⟨rfl, h2⟩
  obtain ⟨hg2, hT2⟩ := hw.out _ h2
  obtain ⟨c0, c1, c2, c3, c4, c5, hBlt⟩ := hbx.out _ h2
  have HT2 := Lib.hid hT2
  clear hT2
  go_wp2_with fail
  refine (hfi.out _ HT2.out).mono ?_
  rintro e w3 ⟨rfl, h3⟩
  obtain ⟨hg3, hT3⟩ := hw.out _ (h2.trans h3)
  clear h2 h3 hg2 c0 c1 c2 c3 c4 c5 hBlt HT2
  have HT3 := Lib.hid hT3
  have HG := Lib.hid hg3
  clear hT3 hg3
  go_wp2_with fail
  go_loop [6] (fun i => ∃ K : Nat, 1 ≤ K ∧ K ≤ 17 ∧ i = .int .i64 K) (fun i => 17 - (intOf i).toNat)
  case atStart => exact ⟨1, by decide, by decide, rfl⟩
  case round =>
    obtain ⟨K, hK1, hK, rfl⟩ := hrel
    by_cases h16 : K ≤ 16
    · have hj : K - 1 < 16 := by omega
      have cth := HT3.out.there (K - 1) hj
      rw [show 103 + (K - 1) = 102 + K by omega, HF.out _ hj] at cth
      have i0 : (0 : Int) ≤ (K : Int) := by omega
      have i1 : (K : Int) ≤ 16 := by omega
      have i2 : (K : Int) < 17 := by omega
      go_wp2_with fail
      go_round
      case rel => exact ⟨K + 1, by omega, by omega, by go_num⟩
      case measure => simp [intOf]; omega
    · obtain rfl : K = 17 := by omega
      go_wp2_with fail
      go_ret2
      exact ⟨rfl, HG.out⟩
theorem dadd_new (b : Nat) (x : Ad) (j : Nat) (ep : Int) (w : World) (T : Nat → Sone) (h : DTab b w T) (h0 : 0 ≤ x.b0) (h1 : x.b0 < 256) (hf : fairA x = true) (hno : ∀ k, k < 16 → hitB T x k = false) (hj : j < 16) (hbus : ∀ k, k < j → (T k).th = true) (hfree : (T j).th = false)
    (hep : (T j).ep = ep) (he0 : 0 ≤ ep) (he1 : ep < 9223372036854775807) :
    Calls Tryd.prog 16 #[.pointer (some ⟨b, 0, none⟩), adV x] w fun e w' => e = .returned (.tuple #[.int .i64 (j + 1), .int .i64 0]) ∧ Gro (some b) w w' ∧ DTab b w' (updT T j ⟨true, x, ep + 1⟩) := by
  have hfa := Lib.hid (fun w : World => dright_any x w h0 h1)
  rw [hf] at hfa
  have hfi := Lib.hid (fun (w : World) (h : DTab b w T) => dfind_any b x 16 w T h (by omega) hno (by omega))
  rw [show findI 16 = 0 from rfl] at hfi
  obtain ⟨J, hJ⟩ : ∃ J, J = j + 1 := ⟨_, rfl⟩
  have HC := Lib.hid (fun w' (h : DTab b w' T) => And.intro (h.cellsK j hj J hJ) (And.intro (h.come j hj J hJ true x (ep + 1)) h.fr))
  rw [hfree, hep] at HC
  have HJ := Lib.hid (And.intro hJ hj)
  rw [show ((j : Int) + 1) = (J : Int) by omega]
  have HF := Lib.hid (fun K (h1 : 1 ≤ K) (h2 : K < J) => hbus (K - 1) (by omega))
  generalize (T j).a = oa at *
  obtain ⟨x0, x1, x2, x3, x4, x5⟩ := x
  unfold adV at *
  simp only at *
  have hw : Hid (∀ w', Gro none (w.alloc (.cells #[.int .u8 x0, .int .u8 x1, .int .u8 x2, .int .u8 x3, .int .u8 x4, .int .u8 x5] 25)) w' → Gro none w w' ∧ DTab b w' T) := by
    intro w' k
    have hg : Gro none w w' := ((Gro.refl none w).alloc _).trans k
    exact ⟨hg, h.gro hg (by simp)⟩
  have hbx : Hid (∀ w', Gro none (w.alloc (.cells #[.int .u8 x0, .int .u8 x1, .int .u8 x2, .int .u8 x3, .int .u8 x4, .int .u8 x5] 25)) w' → _) := fun w' k => box_cells (x := ⟨x0, x1, x2, x3, x4, x5⟩) rfl k
  have hblt := h.lt
  have hne : b ≠ w.heap.size := by omega
  clear h hno hf hbus hfree hep hJ hj
  go_enter Tryd.func16, Tryd.ntmps16
  go_wp2_with fail
  refine (hfa.out _).mono ?_
  rintro e w2 ⟨rfl, h2⟩
  obtain ⟨hg2, hT2⟩ := hw.out _ h2
  obtain ⟨c0, c1, c2, c3, c4, c5, hBlt⟩ := hbx.out _ h2
  have HT2 := Lib.hid hT2
  clear hT2
  go_wp2_with fail
  refine (hfi.out _ HT2.out).mono ?_
  rintro e w3 ⟨rfl, h3⟩
  obtain ⟨hg3, hT3⟩ := hw.out _ (h2.trans h3)
  clear c0 c1 c2 c3 c4 c5 hBlt
  obtain ⟨c0, c1, c2, c3, c4, c5, hBlt⟩ := hbx.out _ (h2.trans h3)
  clear h2 h3 hg2 HT2
  have HT3 := Lib.hid hT3
  have HG := Lib.hid (hg3.weak (row := some b))
  clear hT3 hg3
  generalize w.heap.size = B at *
  go_wp2_with fail
  go_loop [6] (fun i => ∃ K : Nat, 1 ≤ K ∧ K ≤ J ∧ i = .int .i64 K) (fun i => 17 - (intOf i).toNat)
  case atStart => exact ⟨1, by decide, by have := HJ.out; omega, rfl⟩
  case round =>
    obtain ⟨K, hK1, hK, rfl⟩ := hrel
    have h16 : K ≤ 16 := by have := HJ.out; omega
    have i0 : (0 : Int) ≤ (K : Int) := by omega
    have i1 : (K : Int) ≤ 16 := by omega
    have i2 : (K : Int) < 17 := by omega
    by_cases hKJ : K < J
    · have hj : K - 1 < 16 := by omega
      have cth := HT3.out.there (K - 1) hj
      rw [show 103 + (K - 1) = 102 + K by omega, HF.out _ hK1 hKJ] at cth
      clear c0 c1 c2 c3 c4 c5
      go_wp2_with fail
      go_round
      case rel => exact ⟨K + 1, by omega, by omega, by go_num⟩
      case measure => simp [intOf]; omega
    · obtain rfl : K = J := by omega
      obtain ⟨⟨d0, d1, d2, d3, d4, d5, d6, d7⟩, hP, fr⟩ := HC.out _ HT3.out
      have HP := Lib.hid hP
      clear hP HC HF hKJ
      go_wp2_with fail
      go_region
      all_goals (try go_wp2_with fail)
      all_goals go_region
      all_goals (try go_wp2)
      all_goals go_ret2
      all_goals exact ⟨rfl, ((((((((HG.out.setCell _ _).setCell _ _).setCell _ _).setCell _ _).setCell _ _).setCell _ _).setCell _ _).setCell _ _).drew.drew, HP.out.drew.drew⟩
end Go.Proofs.YtiegcfgedhgpnaaDoor
