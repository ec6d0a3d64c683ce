/-
  THE WALK OF AqlBounds: for every station bound, every bound of all and every list it answers true. Conditions: the list's cells are readable.
-/
import Derived.Test.YtcoohlejbeoibaaDoorAql
namespace Go.Proofs.YtcoohlejbeoibaaDoor
open Go.RowKit Aql

/-- What holds at each round's head. -/
def BInv (W : World) (B b : Nat) (st al : Int) (len : Nat) (i : Value) (wr : World) : Prop :=
  ∃ (k : Nat) (f : Nat → Int), k ≤ len ∧ i = .int .i64 k ∧ Lim b wr st al f ∧ Fine st al f ∧ Far B W wr

theorem Aql.Fine.small {st al : Int} {f : Nat → Int} (h : Fine st al f) (hst : st ≤ 4999) : ∀ j, j < 16 → 0 ≤ f j ∧ f j ≤ 140737488355328 := fun j hj => by
  have := h.each j hj
  omega

set_option maxHeartbeats 1000000 in
theorem bounds_any (B : Nat) (s0 a0 : Int) (p : Option Addr) (len cap : Nat) (zs : Nat → Int) (W : World) (hB : W.heap.size = B) (hlen : len ≤ 9223372036854775807)
    (hc : ∀ k, k < len → ∃ lb off, p = some ⟨lb, off, none⟩ ∧ W.cell? ⟨lb, off + k, none⟩ = some (.int .i64 (zs k)) ∧ -9223372036854775808 ≤ zs k ∧ zs k ≤ 9223372036854775807) :
    Calls Tryd.prog 3 #[.int .i64 s0, .int .i64 a0, .slice p len cap] W fun e w' => e = .returned (.bool true) ∧ Far B W w' := by
  subst hB
  have hst0 : 0 ≤ s0 % 5000 := Int.emod_nonneg _ (by decide)
  have hst1 : s0 % 5000 < 5000 := Int.emod_lt_of_pos _ (by decide)
  have hal0 : 0 ≤ a0 % 20000 := Int.emod_nonneg _ (by decide)
  have hal1 : a0 % 20000 < 20000 := Int.emod_lt_of_pos _ (by decide)
  obtain ⟨st, hst⟩ := Int.eq_ofNat_of_zero_le hst0
  obtain ⟨al, hal⟩ := Int.eq_ofNat_of_zero_le hal0
  have HC := Lib.hid hc
  have HS := Lib.hid hst
  have HA := Lib.hid hal
  have hst2 : st < 5000 := by omega
  have hal2 : al < 20000 := by omega
  clear hc hst hal hst0 hst1 hal0 hal1
  go_enter Tryd.func3, Tryd.ntmps3
  go_wp2_with fail
  refine (first_any W).mono ?_
  rintro e w1 ⟨rfl, hg1⟩
  go_wp2_with fail
  refine (number_at s0 5000 st w1 HS.out (by decide) (by decide)).mono ?_
  rintro e w' ⟨rfl, rfl⟩
  go_wp2_with fail
  refine (number_at a0 20000 al w1 HA.out (by decide) (by decide)).mono ?_
  rintro e w' ⟨rfl, rfl⟩
  by_cases hl : 100 < len
  · go_wp2_with fail
    go_ret
    exact ⟨rfl, (Far.refl _ _).gro hg1 (Nat.le_refl _) (fun _ e => by cases e)⟩
  go_wp2_with fail
  refine (new_in st al w1 (by omega) (by omega) (by omega) (by omega)).mono ?_
  rintro e w2 ⟨rfl, hg2, hsz2, hL2⟩
  have hF2 : Far W.heap.size W w2 := ((Far.refl _ _).gro hg1 (Nat.le_refl _) (fun _ e => by cases e)).gro hg2 hg1.size (fun _ e => by cases e)
  have hb : W.heap.size ≤ w1.heap.size := hg1.size
  clear hsz2 hg1 hg2
  generalize w1.heap.size = b at *
  go_wp2_with fail
  go_loopw [10] (fun i wr => BInv W W.heap.size b st al len i wr) (fun i _ => len - (intOf i).toNat)
  case atStart => exact ⟨0, _, Nat.zero_le _, rfl, hL2, Fine.zero _ _ (by omega) (by omega), hF2⟩
  case round =>
    obtain ⟨k, f, hk, rfl, hL, hFi, hFar⟩ := hrel
    clear hL2 hF2
    by_cases hlt : k < len
    · obtain ⟨lb, off, rfl, hcW, hz1, hz2⟩ := HC.out k hlt
      have hcell : wr.cell? ⟨lb, off + k, none⟩ = some (.int .i64 (zs k)) := (hFar.cell (block_lt_of_cell hcW)).trans hcW
      clear HC hcW
      generalize zs k = z at *
      obtain ⟨j, hj⟩ := Int.eq_ofNat_of_zero_le (Int.emod_nonneg z (show (16 : Int) ≠ 0 by decide))
      have hj16 : j < 16 := by have := Int.emod_lt_of_pos z (show (0 : Int) < 16 by decide); omega
      obtain ⟨n, hn⟩ := Int.eq_ofNat_of_zero_le (Int.emod_nonneg (z.tdiv 16) (show (1000 : Int) ≠ 0 by decide))
      have hn1 : n < 1000 := by have := Int.emod_lt_of_pos (z.tdiv 16) (show (0 : Int) < 1000 by decide); omega
      have HJ := Lib.hid hj
      have HN := Lib.hid hn
      clear hj hn
      go_wp2_with fail
      refine (number_at z 16 j wr HJ.out (by decide) (by decide)).mono ?_
      rintro e w' ⟨rfl, rfl⟩
      go_wp2_with fail
      refine (number_at (z.tdiv 16) 1000 n wr HN.out (by decide) (by decide)).mono ?_
      rintro e w' ⟨rfl, rfl⟩
      go_wp2_with fail
      refine (of_at b _ j wr st al f hL hj16 rfl).mono ?_
      rintro e w' ⟨rfl, rfl⟩
      have hsm := hFi.small (by omega)
      have hfj := hsm j hj16
      have hFi' : mayB st al f j = true → Fine st al (upd f j (f j + n)) := fun hm => hFi.add j hj16 n (by omega) (by omega) hm
      by_cases h0 : f j = 0
      · have hm : mayB st al f j = true := by simp [mayB, h0]
        have hz : (f j == 0) = true := by simpa using h0
        have hFa := hFi' hm
        clear hFi' hFi h0
        go_wp2_with fail
        refine (may_at b _ j wr st al f hL hsm hj16 rfl true hm).mono ?_
        rintro e w3 ⟨rfl, hg3, hL3⟩
        go_wp2_with fail
        refine (may_at b _ j w3 st al f hL3 hsm hj16 rfl true hm).mono ?_
        rintro e w4 ⟨rfl, hg4, hL4⟩
        clear hm
        go_wp2_with fail
        refine (add_at b _ j n w4 st al f hL4 hj16 rfl (by omega) (by omega) hfj).mono ?_
        rintro e w5 ⟨rfl, hg5, hL5⟩
        have hF5 : Far W.heap.size W w5 := by
          have hbw := hL.lt
          exact ((hFar.gro hg3 (by omega) (fun _ e => by cases e)).gro hg4 (by have := hg3.size; omega) (fun _ e => by cases e)).gro hg5 (by have := hg3.size; have := hg4.size; omega) (fun _ e => by cases e; omega)
        clear hg3 hg4 hg5 hL3 hL4 hL hFar hsm hfj hz
        go_wp2_with fail
        refine (of_at b _ j w5 st al _ hL5 hj16 rfl).mono ?_
        rintro e w' ⟨rfl, rfl⟩
        have t1 := (hFa).each j hj16
        have t2 := (hFa).top
        have sm := Lib.hid ((hFa).small (by omega))
        obtain ⟨t1, t3⟩ := t1
        go_wp2_with (go_at_call 12; refine (all_any b w5 st al _ hL5 sm.out).mono ?_; rintro e w' ⟨rfl, rfl⟩)
        all_goals
          go_roundw
          case rel => exact ⟨k + 1, _, by omega, by go_num, hL5, hFa, hF5⟩
          case measure => simp [intOf]; omega
      · have hz : (f j == 0) = false := by simpa using h0
        by_cases hm : mayB st al f j = true
        · have hFa := hFi' hm
          clear hFi' hFi h0
          go_wp2_with fail
          refine (may_at b _ j wr st al f hL hsm hj16 rfl true hm).mono ?_
          rintro e w4 ⟨rfl, hg4, hL4⟩
          clear hm
          go_wp2_with fail
          refine (add_at b _ j n w4 st al f hL4 hj16 rfl (by omega) (by omega) hfj).mono ?_
          rintro e w5 ⟨rfl, hg5, hL5⟩
          have hF5 : Far W.heap.size W w5 := by
            have hbw := hL.lt
            exact (hFar.gro hg4 (by omega) (fun _ e => by cases e)).gro hg5 (by have := hg4.size; omega) (fun _ e => by cases e; omega)
          clear hg4 hg5 hL4 hL hFar hsm hfj hz
          go_wp2_with fail
          refine (of_at b _ j w5 st al _ hL5 hj16 rfl).mono ?_
          rintro e w' ⟨rfl, rfl⟩
          have t1 := (hFa).each j hj16
          have t2 := (hFa).top
          have sm := Lib.hid ((hFa).small (by omega))
          obtain ⟨t1, t3⟩ := t1
          go_wp2_with (go_at_call 12; refine (all_any b w5 st al _ hL5 sm.out).mono ?_; rintro e w' ⟨rfl, rfl⟩)
          all_goals
            go_roundw
            case rel => exact ⟨k + 1, _, by omega, by go_num, hL5, hFa, hF5⟩
            case measure => simp [intOf]; omega
        · have hm' : mayB st al f j = false := by simpa using hm
          have hFa := hFi
          clear hFi' hFi h0 hm
          go_wp2_with fail
          refine (may_at b _ j wr st al f hL hsm hj16 rfl false hm').mono ?_
          rintro e w5 ⟨rfl, hg4, hL5⟩
          have hF5 : Far W.heap.size W w5 := by
            have hbw := hL.lt
            exact hFar.gro hg4 (by omega) (fun _ e => by cases e)
          clear hg4 hL hFar hsm hfj hz hm'
          go_wp2_with fail
          refine (of_at b _ j w5 st al _ hL5 hj16 rfl).mono ?_
          rintro e w' ⟨rfl, rfl⟩
          have t1 := (hFa).each j hj16
          have t2 := (hFa).top
          have sm := Lib.hid ((hFa).small (by omega))
          obtain ⟨t1, t3⟩ := t1
          go_wp2_with (go_at_call 12; refine (all_any b w5 st al _ hL5 sm.out).mono ?_; rintro e w' ⟨rfl, rfl⟩)
          all_goals
            go_roundw
            case rel => exact ⟨k + 1, _, by omega, by go_num, hL5, hFa, hF5⟩
            case measure => simp [intOf]; omega
    · go_wp2_with fail
      go_ret
      exact ⟨rfl, hFar⟩
end Go.Proofs.YtcoohlejbeoibaaDoor
