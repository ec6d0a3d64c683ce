/-
  THE WALKS OF package sta, MORE: Find, Epoch, Addr, Del, Add. Conditions: the block is whole ('Tab').
-/
import Derived.Test.YtiegcfgedhgpnaaDoorStaWalks
namespace Go.Proofs.YtiegcfgedhgpnaaDoor
open Go.RowKit

/-- Whether number k + 1 is the address's. -/
def hitB (T : Nat → Sone) (x : Ad) (k : Nat) : Bool := (T k).th && eqA (T k).a x
def findI (m : Nat) : Int := if m < 16 then (m : Int) + 1 else 0

theorem box_cells {x : Ad} {w w' : World} {B : Nat} (hB : B = w.heap.size) (h : Gro none (w.alloc (.cells #[.int .u8 x.b0, .int .u8 x.b1, .int .u8 x.b2, .int .u8 x.b3, .int .u8 x.b4, .int .u8 x.b5] 25)) w') :
    w'.cell? ⟨B, 0, none⟩ = some (.int .u8 x.b0) ∧ w'.cell? ⟨B, 1, none⟩ = some (.int .u8 x.b1) ∧ w'.cell? ⟨B, 2, none⟩ = some (.int .u8 x.b2) ∧ w'.cell? ⟨B, 3, none⟩ = some (.int .u8 x.b3) ∧ w'.cell? ⟨B, 4, none⟩ = some (.int .u8 x.b4) ∧ w'.cell? ⟨B, 5, none⟩ = some (.int .u8 x.b5) ∧ B < w'.heap.size := by
  subst hB
  have hlt : w.heap.size < w'.heap.size := by have := h.size; simp at this; omega
  have hb : w'.heap[w.heap.size]? = _ := (h.block w.heap.size (by simp) (by simp)).trans (heap_alloc_new w _)
  refine ⟨?_, ?_, ?_, ?_, ?_, ?_, hlt⟩
  all_goals (rw [cell_of_row _ _ _ _ _ _ hb]; rfl)

theorem find_any (b : Nat) (x : Ad) (m : Nat) (w : World) (T : Nat → Sone) (h : Tab b w T) (hm : m ≤ 16) (hno : ∀ k, k < m → hitB T x k = false) (hyes : m < 16 → hitB T x m = true) :
    Calls Tryd.prog 8 #[.pointer (some ⟨b, 0, none⟩), adV x] w fun e w' => e = .returned (.tuple #[.int .i64 (findI m), .bool (decide (m < 16))]) ∧ Gro none w w' := by
  obtain ⟨x0, x1, x2, x3, x4, x5⟩ := x
  have hfi := Lib.hid (show findI m = if m < 16 then (m : Int) + 1 else 0 from rfl)
  generalize findI m = fi at *
  unfold adV
  simp only
  obtain ⟨C, hC0, hTC⟩ := h.alloc (.cells #[.int .u8 x0, .int .u8 x1, .int .u8 x2, .int .u8 x3, .int .u8 x4, .int .u8 x5] 25)
  obtain ⟨cs, rfl⟩ : ∃ cs : List Value, C = cs.toArray := ⟨C.toList, (Array.toArray_toList).symm⟩
  have hlen : cs.length = 128 := by simpa using hTC.1
  have hblt := h.lt
  have hcs : Hid (∀ (j : Nat) (v : Value), cs[j]? = some v → (w.alloc (.cells #[.int .u8 x0, .int .u8 x1, .int .u8 x2, .int .u8 x3, .int .u8 x4, .int .u8 x5] 25)).cell? ((⟨b, 0, none⟩ : Addr).add j) = some v) := by
    intro j v hv
    have hadd : (⟨b, 0, none⟩ : Addr).add j = ⟨b, j, none⟩ := by unfold Addr.add; split <;> simp_all
    rw [hadd, cell_of_row _ _ _ _ _ _ hC0]
    simpa using hv
  have hidx := Lib.hid (fun (k : Nat) (hk : k < 16) (w : World) => index_at cs.toArray T hTC k hk w)
  have hno := Lib.hid hno
  have hyes := Lib.hid hyes
  have hinfo : (Tryd.prog.info? 28).map (·.size) = some cs.length := by rw [hlen]; kernel_rfl
  clear h hC0 hTC
  go_enter Tryd.func8, Tryd.ntmps8
  go_wp2_with (refine wpList_load_list rfl 28 _ rfl ⟨b, 0, none⟩ rfl _ _ hcs.out Tryd.underlying28 rfl hinfo ?_; clear hcs hinfo)
  have hG := Lib.hid (Gro.refl none (w.alloc (.cells #[.int .u8 x0, .int .u8 x1, .int .u8 x2, .int .u8 x3, .int .u8 x4, .int .u8 x5] 25)))
  go_loopw [12] (fun i wr => ∃ k : Nat, k ≤ m ∧ i = .int .i64 k ∧ Gro none (w.alloc (.cells #[.int .u8 x0, .int .u8 x1, .int .u8 x2, .int .u8 x3, .int .u8 x4, .int .u8 x5] 25)) wr) (fun i _ => 16 - (intOf i).toNat)
  case atStart => exact ⟨0, Nat.zero_le _, rfl, hG.out⟩
  case round =>
    clear hG
    obtain ⟨k, hk, rfl, hW⟩ := hrel
    obtain ⟨c0, c1, c2, c3, c4, c5, hBlt⟩ := box_cells (x := ⟨x0, x1, x2, x3, x4, x5⟩) rfl hW
    have HW := Lib.hid hW
    have hWs : w.heap.size + 1 ≤ wr.heap.size := by omega
    generalize w.heap.size = B at c0 c1 c2 c3 c4 c5 hBlt ⊢
    by_cases h16 : k < 16
    · have hix := hidx.out k h16 wr
      by_cases hlt : k < m
      · have hn := hno.out k hlt
        unfold hitB at hn
        generalize T k = o at hn hix
        obtain ⟨th, ⟨a0, a1, a2, a3, a4, a5⟩, ep⟩ := o
        unfold soneV at hix
        simp only at hn hix c0 c1 c2 c3 c4 c5
        cases th
        · go_wp2_with fail
          go_roundw
          case rel =>
            exact ⟨k + 1, by omega, by go_num, HW.out.alloc _⟩
          case measure => simp [intOf]; omega
        · simp only [Bool.true_and] at hn
          go_wp2_with fail
          go_roundw
          case rel =>
            exact ⟨k + 1, by omega, by go_num, HW.out.alloc _⟩
          case measure => simp [intOf]; omega
      · obtain rfl : k = m := by omega
        have hn := hyes.out h16
        have hfi2 := hfi.out
        rw [if_pos h16] at hfi2
        subst hfi2
        unfold hitB at hn
        generalize T k = o at hn hix
        obtain ⟨th, ⟨a0, a1, a2, a3, a4, a5⟩, ep⟩ := o
        unfold soneV at hix
        simp only at hn hix c0 c1 c2 c3 c4 c5
        obtain rfl : th = true := by cases th <;> simp_all
        simp only [Bool.true_and] at hn
        go_wp2_with fail
        go_ret2
        exact ⟨by simp [h16], (((Gro.refl _ _).alloc _).trans HW.out).alloc _⟩
    · obtain rfl : k = m := by omega
      have hfi2 := hfi.out
      rw [if_neg h16] at hfi2
      subst hfi2
      go_wp2_with fail
      go_ret2
      exact ⟨by simp, ((Gro.refl _ _).alloc _).trans HW.out⟩
theorem epoch_in (b : Nat) (a : Int) (j : Nat) (w : World) (T : Nat → Sone) (h : Tab b w T) (hj : j < 16) (ha : a = j + 1) :
    Calls Tryd.prog 12 #[.pointer (some ⟨b, 0, none⟩), .int .i64 a] w fun e w' => e = .returned (.int .i64 (T j).ep) ∧ w = w' := by
  have h1 : 1 ≤ a := by omega
  have h2 : a ≤ 16 := by omega
  have hc : w.cell? ⟨b, (a.toNat - 1) * 8 + 7, none⟩ = some (.int .i64 (T j).ep) := by
    have := h.cell j hj 7 (by decide)
    simp only [scell] at this
    rw [← this]; congr 2; omega
  generalize (T j).ep = ep at *
  clear h ha hj
  go_enter Tryd.func12, Tryd.ntmps12
  go_wp2
  go_ret
  exact ⟨rfl, rfl⟩
theorem epoch_out (p : Value) (a : Int) (w : World) (h : a < 1 ∨ 16 < a) :
    Calls Tryd.prog 12 #[p, .int .i64 a] w fun e w' => e = .returned (.int .i64 0) ∧ w = w' := by
  rcases h with h | h
  · go_enter Tryd.func12, Tryd.ntmps12
    go_wp2
    go_ret
    exact ⟨rfl, rfl⟩
  · have h' : 1 ≤ a := by omega
    go_enter Tryd.func12, Tryd.ntmps12
    go_wp2
    go_ret
    exact ⟨rfl, rfl⟩

/-- A station that is there. -/
theorem addr_there (b : Nat) (a : Int) (j : Nat) (w : World) (T : Nat → Sone) (h : Tab b w T) (hj : j < 16) (ha : a = j + 1) (ht : (T j).th = true) :
    Calls Tryd.prog 11 #[.pointer (some ⟨b, 0, none⟩), .int .i64 a] w fun e w' => e = .returned (.tuple #[adV (T j).a, .bool true]) ∧ Gro none w w' := by
  have hof := Lib.hid (fun o : Obj => of_there b a j _ T (h.alloc o) hj ha ht)
  have c1 := h.cell j hj 1 (by decide)
  have c2 := h.cell j hj 2 (by decide)
  have c3 := h.cell j hj 3 (by decide)
  have c4 := h.cell j hj 4 (by decide)
  have c5 := h.cell j hj 5 (by decide)
  have c6 := h.cell j hj 6 (by decide)
  have hblt := h.lt
  simp only [scell] at c1 c2 c3 c4 c5 c6
  unfold adV
  clear h ha ht hj
  generalize (T j).a = x at *
  obtain ⟨x0, x1, x2, x3, x4, x5⟩ := x
  simp only at *
  generalize 8 * j = off at *
  go_enter Tryd.func11, Tryd.ntmps11
  go_wp2_with fail
  refine (hof.out _).mono ?_
  rintro e w' ⟨rfl, rfl⟩
  go_wp2_with fail
  go_returns
  exact ⟨rfl, (Gro.refl _ _).alloc _⟩

theorem del_there (b : Nat) (a : Int) (j : Nat) (w : World) (T : Nat → Sone) (h : Tab b w T) (hj : j < 16) (ha : a = j + 1) (ht : (T j).th = true) :
    Calls Tryd.prog 9 #[.pointer (some ⟨b, 0, none⟩), .int .i64 a] w fun e w' => e = .returned .nilIface ∧ Gro (some b) w w' ∧ Tab b w' (updT T j ⟨false, adZ, (T j).ep⟩) := by
  have hof := Lib.hid (of_there b a j w T h hj ha ht)
  have c0 := h.cell j hj 0 (by decide)
  have c1 := h.cell j hj 1 (by decide)
  have c2 := h.cell j hj 2 (by decide)
  have c3 := h.cell j hj 3 (by decide)
  have c4 := h.cell j hj 4 (by decide)
  have c5 := h.cell j hj 5 (by decide)
  have c6 := h.cell j hj 6 (by decide)
  have hblt := h.lt
  have fr := h.fr
  have hP := Lib.hid (h.s06 j hj false adZ)
  simp only [Nat.add_zero] at c0
  clear h ha ht hj
  generalize 8 * j = off at *
  go_enter Tryd.func9, Tryd.ntmps9
  go_wp2_with fail
  refine hof.out.mono ?_
  rintro e w' ⟨rfl, rfl⟩
  go_wp2_with fail
  go_ret
  exact ⟨rfl, (((((((Gro.refl _ _).setCell _ _).setCell _ _).setCell _ _).setCell _ _).setCell _ _).setCell _ _).setCell _ _, hP.out⟩
theorem del_gone (b : Nat) (a : Int) (j : Nat) (v : Value) (w : World) (T : Nat → Sone) (h : Tab b w T) (hj : j < 16) (ha : a = j + 1) (ht : (T j).th = false) (hv : w.cell? ⟨0, 0, none⟩ = some v) :
    Calls Tryd.prog 9 #[.pointer (some ⟨b, 0, none⟩), .int .i64 a] w fun e w' => e = .returned v ∧ w = w' := by
  have hof := Lib.hid (of_gone b a j w T h hj ha ht)
  clear h hj ha ht
  go_enter Tryd.func9, Tryd.ntmps9
  go_wp2_with fail
  refine hof.out.mono ?_
  rintro e w' ⟨rfl, rfl⟩
  go_wp2_with fail
  go_ret
  exact ⟨rfl, rfl⟩
theorem del_out (p : Value) (a : Int) (v : Value) (w : World) (h : a < 1 ∨ 16 < a) (hv : w.cell? ⟨0, 0, none⟩ = some v) :
    Calls Tryd.prog 9 #[p, .int .i64 a] w fun e w' => e = .returned v ∧ w = w' := by
  have hof := Lib.hid (of_out p a w h)
  clear h
  go_enter Tryd.func9, Tryd.ntmps9
  go_wp2_with fail
  refine hof.out.mono ?_
  rintro e w' ⟨rfl, rfl⟩
  go_wp2_with fail
  go_ret
  exact ⟨rfl, rfl⟩
theorem add_unfair (p : Value) (x : Ad) (v : Value) (w : World) (h0 : 0 ≤ x.b0) (h1 : x.b0 < 256) (hf : fairA x = false) (hv : w.cell? ⟨1, 0, none⟩ = some v) (hlt : 1 < w.heap.size) :
    Calls Tryd.prog 10 #[p, adV x] w fun e w' => e = .returned (.tuple #[.int .i64 0, v]) ∧ Gro none w w' := by
  have hfa := Lib.hid (fun w : World => fair_any x w h0 h1)
  rw [hf] at hfa
  obtain ⟨x0, x1, x2, x3, x4, x5⟩ := x
  unfold adV at *
  simp only at *
  go_enter Tryd.func10, Tryd.ntmps10
  go_wp2_with fail
  refine (hfa.out _).mono ?_
  rintro e w2 ⟨rfl, h2⟩
  have hv2 : w2.cell? ⟨1, 0, none⟩ = some v := by
    rw [h2.cell (by simp; omega) (by simp), ← hv]; exact ((Gro.refl none w).alloc _).cell hlt (by simp)
  have hg : Gro none w w2 := ((Gro.refl none w).alloc _).trans h2
  clear h2
  go_wp2_with fail
  go_region
  all_goals (try go_wp2)
  all_goals go_ret2
  all_goals exact ⟨rfl, hg.drew⟩
theorem add_twice (b : Nat) (x : Ad) (v : Value) (m : Nat) (w : World) (T : Nat → Sone) (h : Tab b w T) (h0 : 0 ≤ x.b0) (h1 : x.b0 < 256) (hf : fairA x = true) (hm : m < 16) (hno : ∀ k, k < m → hitB T x k = false) (hyes : hitB T x m = true)
    (hv : w.cell? ⟨2, 0, none⟩ = some v) (hlt : 2 < w.heap.size) :
    Calls Tryd.prog 10 #[.pointer (some ⟨b, 0, none⟩), adV x] w fun e w' => e = .returned (.tuple #[.int .i64 0, v]) ∧ Gro none w w' := by
  have hfa := Lib.hid (fun w : World => fair_any x w h0 h1)
  rw [hf] at hfa
  have hfi := Lib.hid (fun (w : World) (h : Tab b w T) => find_any b x m w T h (by omega) hno (fun _ => hyes))
  obtain ⟨x0, x1, x2, x3, x4, x5⟩ := x
  unfold adV at *
  simp only at *
  have hT := Lib.hid h
  have hw : Hid (∀ w', Gro none (w.alloc (.cells #[.int .u8 x0, .int .u8 x1, .int .u8 x2, .int .u8 x3, .int .u8 x4, .int .u8 x5] 25)) w' → Gro none w w' ∧ Tab b w' T ∧ w'.cell? ⟨2, 0, none⟩ = some v) := by
    intro w' k
    have hg : Gro none w w' := ((Gro.refl none w).alloc _).trans k
    exact ⟨hg, h.gro hg (by simp), by rw [hg.cell hlt (by simp), hv]⟩
  have hbx : Hid (∀ w', Gro none (w.alloc (.cells #[.int .u8 x0, .int .u8 x1, .int .u8 x2, .int .u8 x3, .int .u8 x4, .int .u8 x5] 25)) w' → _) := fun w' k => box_cells (x := ⟨x0, x1, x2, x3, x4, x5⟩) rfl k
  clear h hno hyes hf hv hlt
  go_enter Tryd.func10, Tryd.ntmps10
  go_wp2_with fail
  refine (hfa.out _).mono ?_
  rintro e w2 ⟨rfl, h2⟩
  obtain ⟨hg2, hT2, -⟩ := hw.out _ h2
  obtain ⟨c0, c1, c2, c3, c4, c5, hBlt⟩ := hbx.out _ h2
  have HT2 := Lib.hid hT2
  clear hT2
  go_wp2_with fail
  refine (hfi.out _ HT2.out).mono ?_
  rintro e w3 ⟨rfl, h3⟩
  obtain ⟨hg3, -, hv3⟩ := hw.out _ (h2.trans h3)
  clear h2 h3 hg2 c0 c1 c2 c3 c4 c5 hBlt
  rw [decide_eq_true hm]
  go_wp2_with fail
  go_region
  all_goals (try go_wp2)
  all_goals go_ret2
  all_goals exact ⟨rfl, hg3.drew⟩
theorem add_full (b : Nat) (x : Ad) (v : Value) (w : World) (T : Nat → Sone) (h : Tab b w T) (h0 : 0 ≤ x.b0) (h1 : x.b0 < 256) (hf : fairA x = true) (hno : ∀ k, k < 16 → hitB T x k = false) (hfull : ∀ k, k < 16 → (T k).th = true)
    (hv : w.cell? ⟨3, 0, none⟩ = some v) (hlt : 3 < w.heap.size) :
    Calls Tryd.prog 10 #[.pointer (some ⟨b, 0, none⟩), adV x] w fun e w' => e = .returned (.tuple #[.int .i64 0, v]) ∧ Gro none w w' := by
  have hfa := Lib.hid (fun w : World => fair_any x w h0 h1)
  rw [hf] at hfa
  have hfi := Lib.hid (fun (w : World) (h : Tab b w T) => find_any b x 16 w T h (by omega) hno (by omega))
  obtain ⟨x0, x1, x2, x3, x4, x5⟩ := x
  unfold adV at *
  simp only at *
  have hw : Hid (∀ w', Gro none (w.alloc (.cells #[.int .u8 x0, .int .u8 x1, .int .u8 x2, .int .u8 x3, .int .u8 x4, .int .u8 x5] 25)) w' → Gro none w w' ∧ Tab b w' T ∧ w'.cell? ⟨3, 0, none⟩ = some v) := by
    intro w' k
    have hg : Gro none w w' := ((Gro.refl none w).alloc _).trans k
    exact ⟨hg, h.gro hg (by simp), by rw [hg.cell hlt (by simp), hv]⟩
  have hbx : Hid (∀ w', Gro none (w.alloc (.cells #[.int .u8 x0, .int .u8 x1, .int .u8 x2, .int .u8 x3, .int .u8 x4, .int .u8 x5] 25)) w' → _) := fun w' k => box_cells (x := ⟨x0, x1, x2, x3, x4, x5⟩) rfl k
  have HF := Lib.hid hfull
  clear h hno hf hv hlt hfull
  go_enter Tryd.func10, Tryd.ntmps10
  go_wp2_with fail
  refine (hfa.out _).mono ?_
  rintro e w2 ⟨rfl, h2⟩
  obtain ⟨hg2, hT2, -⟩ := hw.out _ h2
  obtain ⟨c0, c1, c2, c3, c4, c5, hBlt⟩ := hbx.out _ h2
  have HT2 := Lib.hid hT2
  clear hT2
  go_wp2_with fail
  refine (hfi.out _ HT2.out).mono ?_
  rintro e w3 ⟨rfl, h3⟩
  obtain ⟨hg3, hT3, hv3⟩ := hw.out _ (h2.trans h3)
  clear h2 h3 hg2 c0 c1 c2 c3 c4 c5 hBlt HT2
  have HT3 := Lib.hid hT3
  clear hT3
  rw [show decide (16 < 16) = false from rfl]
  go_wp2_with fail
  go_loop [8, 9, 22] (fun _ _ i => ∃ k : Nat, k ≤ 16 ∧ i = .int .i64 k) (fun _ _ i => 16 - (intOf i).toNat)
  case atStart => exact ⟨0, Nat.zero_le _, rfl⟩
  case round =>
    obtain ⟨k, hk, rfl⟩ := hrel
    by_cases hlt : k < 16
    · have ct := HT3.out.cell k hlt 0 (by decide)
      simp only [scell, HF.out k hlt, Nat.add_zero] at ct
      rw [Nat.mul_comm] at ct
      go_wp2
      go_round
      case rel => exact ⟨k + 1, by omega, by go_num⟩
      case measure => simp [intOf]; omega
    · obtain rfl : k = 16 := by omega
      go_wp2_with fail
      go_region
      all_goals (try go_wp2)
      all_goals go_ret2
      all_goals exact ⟨rfl, hg3.drew⟩
end Go.Proofs.YtiegcfgedhgpnaaDoor
