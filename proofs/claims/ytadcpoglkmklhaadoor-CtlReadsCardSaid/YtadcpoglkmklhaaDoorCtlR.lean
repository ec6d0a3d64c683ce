/-
  THE WALKS OF package ctl, READING: what is amiss with a frame's first byte and its length. Conditions: the fourteen sentinels' own ('Sent'), where an error is told.
-/
import Derived.Test.YtadcpoglkmklhaaDoorCtlW
import Derived.Test.YtadcpoglkmklhaaDoorFour
namespace Go.Proofs.YtadcpoglkmklhaaDoor
open Go.RowKit

/-- What is amiss with the first byte, or the length: the error's number; 0: nothing. -/
def longR (bs : List Int) (kind : Int) (n : Nat) : Nat := if 0 < bs.length ∧ bs.getD 0 0 ≠ kind then 5 else if bs.length < n then 1 else if n < bs.length then 2 else 0
theorem longR_lt (bs : List Int) (kind : Int) (n : Nat) : longR bs kind n < 15 := by unfold longR; split <;> (try split) <;> (try split) <;> omega

theorem long_any (p : Option Addr) (cap : Nat) (bs : List Int) (kind : Int) (n : Nat) (B : Nat) (A : Nat → Addr) (w : World) (hs : Four B w A) (hn : n ≤ 1000) (h : Lie w p bs) (hk : 0 ≤ kind ∧ kind < 256) :
    Calls Tryd.prog 36 #[.slice p bs.length cap, .int .u8 kind, .int .i64 n] w fun e w' => e = .returned (errV A (longR bs kind n)) ∧ w = w' := by
  have c1 := hs.c0
  have c2 := hs.c1
  have c5 := hs.c4
  clear hs
  have hr : longR bs kind n = if 0 < bs.length ∧ bs.getD 0 0 ≠ kind then 5 else if bs.length < n then 1 else if n < bs.length then 2 else 0 := rfl
  by_cases h0 : 0 < bs.length
  · obtain ⟨b, o, rfl, hc⟩ := h 0 h0
    rw [Nat.add_zero] at hc
    by_cases hx : bs.getD 0 0 = kind
    · rw [if_neg (fun h => h.2 hx)] at hr
      rw [hx] at hc
      rcases (show bs.length < n ∨ n < bs.length ∨ bs.length = n from by omega) with h1 | h1 | h1
      · rw [if_pos h1] at hr
        rw [hr]
        generalize bs.length = m at *
        clear hr hx h
        unfold errV
        go_enter Tryd.func36, Tryd.ntmps36
        go_wp2
        go_ret
        exact ⟨rfl, rfl⟩
      · rw [if_neg (by omega), if_pos h1] at hr
        rw [hr]
        generalize bs.length = m at *
        have h2 : ¬ m < n := by omega
        clear hr hx h
        unfold errV
        go_enter Tryd.func36, Tryd.ntmps36
        go_wp2
        go_ret
        exact ⟨rfl, rfl⟩
      · rw [if_neg (by omega), if_neg (by omega)] at hr
        rw [hr]
        generalize bs.length = m at *
        subst h1
        clear hr hx h
        unfold errV
        go_enter Tryd.func36, Tryd.ntmps36
        go_wp2
        go_ret
        exact ⟨rfl, rfl⟩
    · rw [if_pos ⟨h0, hx⟩] at hr
      rw [hr]
      have hx' : (bs.getD 0 0 == kind) = false := by simpa using hx
      generalize bs.getD 0 0 = x at *
      generalize bs.length = m at *
      clear hr hx h
      unfold errV
      go_enter Tryd.func36, Tryd.ntmps36
      go_wp2
      go_ret
      exact ⟨rfl, rfl⟩
  · have hl : bs.length = 0 := by omega
    rw [hl] at hr ⊢
    rw [if_neg (by omega)] at hr
    by_cases h1 : 0 < n
    · rw [if_pos h1] at hr
      rw [hr]
      clear hr h h0
      unfold errV
      go_enter Tryd.func36, Tryd.ntmps36
      go_wp2
      go_ret
      exact ⟨rfl, rfl⟩
    · obtain rfl : n = 0 := by omega
      rw [if_neg (by omega), if_neg (by omega)] at hr
      rw [hr]
      clear hr h h0
      unfold errV
      go_enter Tryd.func36, Tryd.ntmps36
      go_wp2
      go_ret
      exact ⟨rfl, rfl⟩

theorem errV_pos (A : Nat → Addr) {k : Nat} (h : k ≠ 0) : ∃ a, errV A k = .iface 93 (.pointer (some a)) := by
  cases k with
  | zero => exact absurd rfl h
  | succ n => exact ⟨_, rfl⟩

theorem readBar_bad (p : Option Addr) (cap : Nat) (bs : List Int) (B : Nat) (A : Nat → Addr) (w : World) (hs : Four B w A) (hB : B ≤ w.heap.size) (h : Lie w p bs) (hr : longR bs 132 20 ≠ 0) :
    Calls Tryd.prog 21 #[.slice p bs.length cap] w fun e w' => e = .returned (.tuple #[barV adZ adZ 0 0, errV A (longR bs 132 20)]) ∧ Gro none w w' := by
  have HL := Lib.hid (fun w' (k : Gro none w w') => long_any p cap bs 132 20 B A w' (hs.far fun i hi => k.block i (by omega) (by simp)) (by decide) (h.gro k (by simp)) (by decide))
  obtain ⟨a, ha⟩ := errV_pos A hr
  rw [ha] at HL ⊢
  clear hs h hr ha
  unfold barV adZ
  simp only
  go_enter Tryd.func21, Tryd.ntmps21
  go_wp2_with fail
  refine (HL.out _ ((Gro.refl _ _).alloc _)).mono ?_
  rintro e w' ⟨rfl, rfl⟩
  go_wp2_with fail
  go_returns
  exact ⟨rfl, (Gro.refl _ _).alloc _⟩

theorem readAck_bad (p : Option Addr) (cap : Nat) (bs : List Int) (B : Nat) (A : Nat → Addr) (w : World) (hs : Four B w A) (hB : B ≤ w.heap.size) (h : Lie w p bs) (hr : longR bs 148 28 ≠ 0) :
    Calls Tryd.prog 18 #[.slice p bs.length cap] w fun e w' => e = .returned (.tuple #[ackV adZ adZ 0 0 0, errV A (longR bs 148 28)]) ∧ Gro none w w' := by
  have HL := Lib.hid (fun w' (k : Gro none w w') => long_any p cap bs 148 28 B A w' (hs.far fun i hi => k.block i (by omega) (by simp)) (by decide) (h.gro k (by simp)) (by decide))
  obtain ⟨a, ha⟩ := errV_pos A hr
  rw [ha] at HL ⊢
  clear hs h hr ha
  unfold ackV adZ
  simp only
  go_enter Tryd.func18, Tryd.ntmps18
  go_wp2_with fail
  refine (HL.out _ ((Gro.refl _ _).alloc _)).mono ?_
  rintro e w' ⟨rfl, rfl⟩
  go_wp2_with fail
  go_returns
  exact ⟨rfl, (Gro.refl _ _).alloc _⟩

theorem readPoll_bad (p : Option Addr) (cap : Nat) (bs : List Int) (B : Nat) (A : Nat → Addr) (w : World) (hs : Four B w A) (hB : B ≤ w.heap.size) (h : Lie w p bs) (hr : longR bs 164 16 ≠ 0) :
    Calls Tryd.prog 20 #[.slice p bs.length cap] w fun e w' => e = .returned (.tuple #[pollV 0 adZ adZ, errV A (longR bs 164 16)]) ∧ Gro none w w' := by
  have HL := Lib.hid (fun w' (k : Gro none w w') => long_any p cap bs 164 16 B A w' (hs.far fun i hi => k.block i (by omega) (by simp)) (by decide) (h.gro k (by simp)) (by decide))
  obtain ⟨a, ha⟩ := errV_pos A hr
  rw [ha] at HL ⊢
  clear hs h hr ha
  unfold pollV adZ
  simp only
  go_enter Tryd.func20, Tryd.ntmps20
  go_wp2_with fail
  refine (HL.out _ ((Gro.refl _ _).alloc _)).mono ?_
  rintro e w' ⟨rfl, rfl⟩
  go_wp2_with fail
  go_returns
  exact ⟨rfl, (Gro.refl _ _).alloc _⟩

end Go.Proofs.YtadcpoglkmklhaaDoor
