/-
  THE WALK OF AqlBack: for every list and every station it answers true. Conditions: the list's cells are readable, the sentinels lie ('Sent').
-/
import Derived.Test.YtcoohlejbeoibaaDoorAqlSub
import Derived.Test.YtcoohlejbeoibaaDoorAqlBackLaw
namespace Go.Proofs.YtcoohlejbeoibaaDoor
open Go.RowKit Aql

/-- What holds at each round's head of the first loop. -/
def KInv (W : World) (B b len : Nat) (zs : Nat → Int) (h : Nat) (s m i : Value) (wr : World) : Prop :=
  ∃ k : Nat, k ≤ len ∧ i = .int .i64 k ∧ s = .int .i64 (sumTo (sent zs k) 16) ∧ m = .int .i64 (sent zs k h) ∧ Lim b wr 1000 4000 (sent zs k) ∧ Far B W wr
/-- .. of the second. -/
def LInv (W : World) (B b len : Nat) (zs : Nat → Int) (h : Nat) (i : Value) (wr : World) : Prop :=
  ∃ k : Nat, k ≤ len ∧ i = .int .i64 k ∧ Lim b wr 1000 4000 (rest zs len h k) ∧ Far B W wr

theorem all_eq (b : Nat) (w : World) (st al : Int) (f : Nat → Int) (v : Int) (hv : sumTo f 16 = v) (h : Lim b w st al f) (hb : ∀ j, j < 16 → 0 ≤ f j ∧ f j ≤ 140737488355328) :
    Calls Tryd.prog 12 #[.pointer (some ⟨b, 0, none⟩)] w fun e w' => e = .returned (.int .i64 v) ∧ w = w' := by
  have := all_any b w st al f h hb
  rwa [hv] at this
theorem of_eq (b : Nat) (a : Int) (j : Nat) (w : World) (st al : Int) (f : Nat → Int) (v : Int) (hv : f j = v) (h : Lim b w st al f) (hj : j < 16) (ha : a = j + 1) :
    Calls Tryd.prog 9 #[.pointer (some ⟨b, 0, none⟩), .int .i64 a] w fun e w' => e = .returned (.int .i64 v) ∧ w = w' := by
  have := of_at b a j w st al f h hj ha
  rwa [hv] at this
theorem sub_at (b : Nat) (a : Int) (j : Nat) (n : Int) (w : World) (st al : Int) (f : Nat → Int) (h : Lim b w st al f) (hj : j < 16) (ha : a = j + 1) (hn0 : 0 ≤ n) (hn : n ≤ 1099511627776) (hf0 : n ≤ f j) (hf : f j ≤ 140737488355328) :
    Calls Tryd.prog 14 #[.pointer (some ⟨b, 0, none⟩), .int .i64 a, .int .i64 n] w fun e w' => e = .returned .nilIface ∧ Gro (some b) w w' ∧ Lim b w' st al (upd f j (f j - n)) := by
  have e : a.toNat - 1 = j := by omega
  have := sub_in b a n w st al f h (by omega) (by omega) hn0 hn (by rw [e]; exact hf0) (by rw [e]; exact hf)
  rwa [e] at this
theorem sub_less (b : Nat) (a : Int) (j : Nat) (n : Int) (B : Nat) (w : World) (A : Nat → Addr) (hs : Sent B w A) (st al : Int) (f : Nat → Int) (h : Lim b w st al f) (hj : j < 16) (ha : a = j + 1) (hn0 : 0 ≤ n) (hn : n ≤ 1099511627776) (hf0 : f j < n) :
    Calls Tryd.prog 14 #[.pointer (some ⟨b, 0, none⟩), .int .i64 a, .int .i64 n] w fun e w' => e = .returned (errV A 10) ∧ w = w' := by
  have e : a.toNat - 1 = j := by omega
  exact sub_low b a n B w A hs st al f h (by omega) (by omega) hn0 hn (by rw [e]; exact hf0)
theorem clear_at (b : Nat) (a : Int) (j : Nat) (w : World) (st al : Int) (f : Nat → Int) (h : Lim b w st al f) (hj : j < 16) (ha : a = j + 1) :
    Calls Tryd.prog 15 #[.pointer (some ⟨b, 0, none⟩), .int .i64 a] w fun e w' => e = .returned (.tuple #[]) ∧ Gro (some b) w w' ∧ Lim b w' st al (upd f j 0) := by
  have e : a.toNat - 1 = j := by omega
  have := clear_in b a w st al f h (by omega) (by omega)
  rwa [e] at this

set_option maxHeartbeats 1000000 in
theorem back_any (B : Nat) (A : Nat → Addr) (who : Int) (p : Option Addr) (len cap : Nat) (zs : Nat → Int) (W : World) (hB : W.heap.size = B) (hs : Sent B W A) (hlen : len ≤ 9223372036854775807)
    (hc : ∀ k, k < len → ∃ lb off, p = some ⟨lb, off, none⟩ ∧ W.cell? ⟨lb, off + k, none⟩ = some (.int .i64 (zs k)) ∧ -9223372036854775808 ≤ zs k ∧ zs k ≤ 9223372036854775807) :
    Calls Tryd.prog 4 #[.slice p len cap, .int .i64 who] W fun e w' => e = .returned (.bool true) ∧ Far B W w' := by
  subst hB
  have HS := Lib.hid hs
  have HC := Lib.hid hc
  obtain ⟨h, hh16, hh⟩ : ∃ h : Nat, h < 16 ∧ who % 16 = (h : Int) := ⟨jj who, jj_lt who, jj_eq who⟩
  have HH := Lib.hid hh
  clear hc hs hh
  go_enter Tryd.func4, Tryd.ntmps4
  go_wp2_with fail
  refine (first_any W).mono ?_
  rintro e w1 ⟨rfl, hg1⟩
  by_cases hl : 50 < len
  · go_wp2_with fail
    go_ret
    exact ⟨rfl, (Far.refl _ _).gro hg1 (Nat.le_refl _) (fun _ e => by cases e)⟩
  go_wp2_with fail
  refine (number_val who 16 h w1 HH.out (by decide) (by decide)).mono ?_
  rintro e w' ⟨rfl, rfl⟩
  go_wp2_with fail
  refine (new_in 1000 4000 w1 (by omega) (by omega) (by omega) (by omega)).mono ?_
  rintro e w2 ⟨rfl, hg2, hsz2, hL2⟩
  have hF2 : Far W.heap.size W w2 := ((Far.refl _ _).gro hg1 (Nat.le_refl _) (fun _ e => by cases e)).gro hg2 hg1.size (fun _ e => by cases e)
  have hb : W.heap.size ≤ w1.heap.size := hg1.size
  clear hsz2 hg1 hg2
  generalize w1.heap.size = b at *
  go_wp2_with fail
  go_loopw [8, 9, 10] (fun s m i wr => KInv W W.heap.size b len zs h s m i wr) (fun _ _ i _ => len - (intOf i).toNat)
  case atStart => exact ⟨0, Nat.zero_le _, rfl, rfl, rfl, hL2, hF2⟩
  case round =>
    obtain ⟨k, hk, rfl, rfl, rfl, hL, hFar⟩ := hrel
    clear hL2 hF2
    have hsb := sent_sum_bd zs k (by omega)
    have hmb := sent_bd zs k h
    by_cases hlt : k < len
    · obtain ⟨lb, off, rfl, hcW, hz1, hz2⟩ := HC.out k hlt
      have hcell : wr.cell? ⟨lb, off + k, none⟩ = some (.int .i64 (zs k)) := (hFar.cell (block_lt_of_cell hcW)).trans hcW
      have hfj := sent_small zs k (by omega) (jj (zs k)) (jj_lt _)
      have hn := nn_bd (zs k)
      have hj16 := jj_lt (zs k)
      have hse := Lib.hid (sent_sum zs k)
      have hsm := Lib.hid (sent_same zs k)
      have hso := Lib.hid (sent_other zs k h)
      have hsd : Hid (sent zs (k + 1) = upd (sent zs k) (jj (zs k)) (sent zs k (jj (zs k)) + nn (zs k))) := rfl
      have hj := Lib.hid (jj_eq (zs k))
      have hnn : Hid ((zs k).tdiv 16 % 1000 = nn (zs k)) := rfl
      clear HC hcW HS
      generalize zs k = z at *
      generalize jj z = j at *
      generalize nn z = n at *
      go_wp2_with fail
      refine (number_val z 16 j wr hj.out (by decide) (by decide)).mono ?_
      rintro e w' ⟨rfl, rfl⟩
      go_wp2_with fail
      refine (number_val (z.tdiv 16) 1000 n wr hnn.out (by decide) (by decide)).mono ?_
      rintro e w' ⟨rfl, rfl⟩
      go_wp2_with fail
      refine (add_at b _ j n wr 1000 4000 _ hL hj16 rfl (by omega) (by omega) hfj).mono ?_
      rintro e w5 ⟨rfl, hg5, hL5⟩
      have hF5 : Far W.heap.size W w5 := hFar.gro hg5 (by have := hL.lt; omega) (fun _ e => by cases e; omega)
      clear hg5 hL hFar hcell hz1 hz2
      rw [← hsd.out] at hL5
      by_cases e : j = h
      · subst e
        go_wp2_with fail
        go_roundw
        case rel => exact ⟨k + 1, by omega, by go_num, by rw [hse.out], by rw [hsm.out], hL5, hF5⟩
        case measure => simp [intOf]; omega
      · have e1 : ((j : Int) + 1 == (h : Int) + 1) = false := by simp; omega
        have e2 : Hid (h ≠ j) := fun x => e x.symm
        clear e
        go_wp2_with fail
        go_roundw
        case rel => exact ⟨k + 1, by omega, by go_num, by rw [hse.out], by rw [hso.out e2.out], hL5, hF5⟩
        case measure => simp [intOf]; omega
    · obtain rfl : k = len := by omega
      go_wp2_with fail
      have hsm := sent_small zs k (by omega)
      refine (all_any b wr 1000 4000 _ hL hsm).mono ?_
      rintro e w' ⟨rfl, rfl⟩
      go_wp2_with fail
      refine (of_at b _ h wr 1000 4000 _ hL hh16 rfl).mono ?_
      rintro e w' ⟨rfl, rfl⟩
      go_wp2_with fail
      have hSr : Sent W.heap.size wr A := HS.out.far hFar.block
      have hfs := hFar.size
      refine (sub_less b _ h _ W.heap.size wr A hSr 1000 4000 _ hL hh16 rfl (by omega) (by omega) (by omega)).mono ?_
      rintro e w' ⟨rfl, rfl⟩
      go_wp2_with fail
      refine (is_any W.heap.size wr A hSr hfs 10 (by decide) 110).mono ?_
      rintro e w3 ⟨rfl, hg3⟩
      have hL3 := hL.gro hg3 (by simp)
      have hF3 : Far W.heap.size W w3 := hFar.gro hg3 hfs (fun _ e => by cases e)
      clear hL hFar hSr hfs hg3
      have hcd : decide (codeOf 10 = 110) = true := by decide
      go_wp2_with fail
      refine (clear_at b _ h w3 1000 4000 _ hL3 hh16 rfl).mono ?_
      rintro e w4 ⟨rfl, hg4, hL4⟩
      have hF4 : Far W.heap.size W w4 := hF3.gro hg4 hF3.size (fun _ e => by cases e; omega)
      rw [rest_zero] at hL4
      clear hg4 hF3 hL3 hcd
      have hrs := rest_small zs k h 0 (by omega) (by omega)
      go_wp2_with fail
      refine (all_eq b w4 1000 4000 _ _ (rest_sum0 zs k h hh16) hL4 hrs).mono ?_
      rintro e w' ⟨rfl, rfl⟩
      go_wp2_with fail
      refine (of_eq b _ h w4 1000 4000 _ 0 (by simp [rest]) hL4 hh16 rfl).mono ?_
      rintro e w' ⟨rfl, rfl⟩
      go_wp2_with fail
      refine (may_at b _ h w4 1000 4000 _ hL4 hrs hh16 rfl true (rest_may zs k h 0 1000 4000)).mono ?_
      rintro e w5 ⟨rfl, hg5, hL5⟩
      have hF5 : Far W.heap.size W w5 := hF4.gro hg5 hF4.size (fun _ e => by cases e)
      clear hg5 hF4 hL4 hrs hsm
      go_wp2_with fail
      go_loopw [13] (fun i wr => LInv W W.heap.size b k zs h i wr) (fun i _ => k - (intOf i).toNat)
      case atStart => exact ⟨0, Nat.zero_le _, rfl, hL5, hF5⟩
      case round =>
        obtain ⟨m, hm, rfl, hL, hFar⟩ := hrel
        clear hL5 hF5
        by_cases hlt : m < k
        · obtain ⟨lb, off, rfl, hcW, hz1, hz2⟩ := HC.out m hlt
          have hcell : wr.cell? ⟨lb, off + m, none⟩ = some (.int .i64 (zs m)) := (hFar.cell (block_lt_of_cell hcW)).trans hcW
          have hn := nn_bd (zs m)
          have hj16 := jj_lt (zs m)
          have hro := Lib.hid (rest_other zs k h m)
          have hrm := Lib.hid (rest_mine zs k h m)
          have hre := Lib.hid (rest_enough zs k h m hlt)
          have hrb := (rest_bd zs k h m (jj (zs m)) (by omega) hm).2
          have hj := Lib.hid (jj_eq (zs m))
          have hnn : Hid ((zs m).tdiv 16 % 1000 = nn (zs m)) := rfl
          clear HC hcW HS
          generalize zs m = z at *
          generalize jj z = j at *
          generalize nn z = n at *
          go_wp2_with fail
          refine (number_val z 16 j wr hj.out (by decide) (by decide)).mono ?_
          rintro e w' ⟨rfl, rfl⟩
          by_cases e : j = h
          · rw [← hrm.out e] at hL
            subst e
            clear hrm hro hre hrb
            go_wp2_with fail
            go_roundw
            case rel => exact ⟨m + 1, by omega, by go_num, hL, hFar⟩
            case measure => simp [intOf]; omega
          · have e1 : ((j : Int) + 1 == (h : Int) + 1) = false := by simp; omega
            have e2 : ((j : Int) + 1 != (h : Int) + 1) = true := by simp; omega
            have E := Lib.hid e
            clear e
            go_wp2_with fail
            refine (number_val (z.tdiv 16) 1000 n wr hnn.out (by decide) (by decide)).mono ?_
            rintro e w' ⟨rfl, rfl⟩
            go_wp2_with fail
            refine (sub_at b _ j n wr 1000 4000 _ hL hj16 rfl (by omega) (by omega) (hre.out E.out) (by omega)).mono ?_
            rintro e w6 ⟨rfl, hg6, hL6⟩
            have hF6 : Far W.heap.size W w6 := hFar.gro hg6 hFar.size (fun _ e => by cases e; omega)
            rw [← hro.out E.out] at hL6
            clear hg6 hL hFar hcell
            go_wp2_with fail
            go_roundw
            case rel => exact ⟨m + 1, by omega, by go_num, hL6, hF6⟩
            case measure => simp [intOf]; omega
        · obtain rfl : m = k := by omega
          have hSr : Sent W.heap.size wr A := HS.out.far hFar.block
          have hfs := hFar.size
          have hrs := rest_small zs m h m (by omega) (by omega)
          go_wp2_with fail
          refine (all_eq b wr 1000 4000 _ 0 (rest_done zs m h) hL hrs).mono ?_
          rintro e w' ⟨rfl, rfl⟩
          go_wp2_with fail
          refine (may_out _ 0 wr (by omega)).mono ?_
          rintro e w' ⟨rfl, rfl⟩
          go_wp2_with fail
          refine (may_out _ 17 wr (by omega)).mono ?_
          rintro e w' ⟨rfl, rfl⟩
          go_wp2_with fail
          refine (add_out _ 0 1 W.heap.size wr A hSr (by omega)).mono ?_
          rintro e w' ⟨rfl, rfl⟩
          go_wp2_with fail
          refine (is_any W.heap.size wr A hSr hfs 3 (by decide) 103).mono ?_
          rintro e w6 ⟨rfl, hg6⟩
          have hc3 : decide (codeOf 3 = 103) = true := by decide
          have hF6 : Far W.heap.size W w6 := hFar.gro hg6 hfs (fun _ e => by cases e)
          have hS6 : Sent W.heap.size w6 A := hSr.far fun i hi => hg6.block i (by omega) (by simp)
          have hfs6 := hF6.size
          clear hg6 hL hFar hSr
          go_wp2_with fail
          refine (sub_out _ 1 (-1) W.heap.size w6 A hS6 (by omega)).mono ?_
          rintro e w' ⟨rfl, rfl⟩
          go_wp2_with fail
          refine (is_any W.heap.size w6 A hS6 hfs6 3 (by decide) 103).mono ?_
          rintro e w7 ⟨rfl, hg7⟩
          have hF7 : Far W.heap.size W w7 := hF6.gro hg7 hfs6 (fun _ e => by cases e)
          clear hS6 hF6 hg7
          go_wp2_with fail
          go_ret
          exact ⟨rfl, hF7⟩
end Go.Proofs.YtcoohlejbeoibaaDoor
