/-
  THE WALKS OF package act, READING: bytes.IndexByte, long. Conditions: the bytes lie where the slice says; the sentinels' own.
-/
import Derived.Test.YtflckkeaakmojaaDoorAct
import Derived.Test.YtflckkeaakmojaaDoorFour
import Derived.Test.YtflckkeaakmojaaDoorEqual
import Derived.Lib.BytesEntry
namespace Go.Proofs.YtflckkeaakmojaaDoor
open Go.RowKit

/-- What is amiss with a frame's length and kind (K: it is of the kind asked for): the error's number; 0: nothing. -/
def longA (bs : List Int) (n : Nat) (K : Prop) [Decidable K] : Nat := if bs.length < 26 then 1 else if ¬ K then 5 else if bs.length < n then 1 else if n < bs.length then 2 else 0
/-- Is it an Add's, a Del's kind? -/
def kAdd (bs : List Int) : Prop := bs.getD 0 0 = 208 ∧ bs.getD 24 0 = 3 ∧ (bs.getD 25 0 = 0 ∨ bs.getD 25 0 = 1)
def kDel (bs : List Int) : Prop := bs.getD 0 0 = 208 ∧ bs.getD 24 0 = 3 ∧ bs.getD 25 0 = 2
instance (bs : List Int) : Decidable (kAdd bs) := by unfold kAdd; infer_instance
instance (bs : List Int) : Decidable (kDel bs) := by unfold kDel; infer_instance

theorem index_any (b o n c : Nat) (xs : List Int) (cv : Int) (w : World) (hx : xs.length = n) (hc : ∀ i, i < n → w.cell? ⟨b, o + i, none⟩ = some (.int .u8 (xs.getD i 0))) :
    Calls Tryd.prog 40 #[.slice (some ⟨b, o, none⟩) n c, .int .u8 cv] w fun e w' => e = .returned (.int .i64 (Lib.indexByte (Lib.bytesOf xs) cv.toNat.toUInt8)) ∧ w = w' := by
  go_enter Tryd.func40, Tryd.ntmps40
  go_wp2
  rw [run_callFunc_extern Tryd.func45 (by kernel_rfl) (by kernel_rfl) (by kernel_rfl) (e := Extern.BytealgIndexByte.indexByte) (by kernel_rfl), Lib.run_indexByteSlice w b o n c xs hx hc cv]
  simp only [Result.andThen]
  rw [Oper.upon_value]
  go_wp2
  go_ret
  exact ⟨rfl, rfl⟩
theorem index_add (y : Int) (h : 0 ≤ y ∧ y < 256) : Lib.indexByte (Lib.bytesOf [0, 1]) y.toNat.toUInt8 < 0 ↔ ¬ (y = 0 ∨ y = 1) := by
  have hall : ∀ k : Fin 256, (Lib.indexByte (Lib.bytesOf [0, 1]) k.val.toUInt8 < 0 ↔ ¬ (k.val = 0 ∨ k.val = 1)) := of_decide_eq_true (by kernel_rfl)
  have := hall ⟨y.toNat, by omega⟩
  simp only at this
  rw [this]; omega
theorem index_del (y : Int) (h : 0 ≤ y ∧ y < 256) : Lib.indexByte (Lib.bytesOf [2]) y.toNat.toUInt8 < 0 ↔ ¬ y = 2 := by
  have hall : ∀ k : Fin 256, (Lib.indexByte (Lib.bytesOf [2]) k.val.toUInt8 < 0 ↔ ¬ k.val = 2) := of_decide_eq_true (by kernel_rfl)
  have := hall ⟨y.toNat, by omega⟩
  simp only at this
  rw [this]; omega

set_option maxRecDepth 100000 in
theorem long_any (p : Option Addr) (cap : Nat) (bs : List Int) (n : Nat) (V : Value) (r : Int) (R : Prop) [Decidable R] (B : Nat) (A : Nat → Addr) (w : World) (hs : Four B w A) (hn : n ≤ 1000) (h : Lie w p bs) (hr : 26 ≤ bs.length → (r < 0 ↔ ¬ R))
    (hi : 26 ≤ bs.length → Calls Tryd.prog 40 #[V, .int .u8 (bs.getD 25 0)] w fun e w' => e = .returned (.int .i64 r) ∧ w = w') :
    Calls Tryd.prog 26 #[.slice p bs.length cap, .int .i64 n, V] w fun e w' => e = .returned (errV A (longA bs n (bs.getD 0 0 = 208 ∧ bs.getD 24 0 = 3 ∧ R))) ∧ w = w' := by
  have hE := hs.c0
  have hS := hs.c1
  have hK := hs.c4
  unfold longA
  by_cases h26 : bs.length < 26
  · rw [if_pos h26]
    generalize bs.length = m at *
    have i1 : (m : Int) < 26 := by omega
    clear hr hi h
    simp only [errV]
    go_enter Tryd.func26, Tryd.ntmps26
    go_wp2
    go_ret
    exact ⟨rfl, rfl⟩
  · rw [if_neg h26]
    obtain ⟨b, o, rfl, hc0⟩ := h 0 (by omega)
    rw [Nat.add_zero] at hc0
    have hc24 : w.cell? ⟨b, o + 24, none⟩ = some (.int .u8 (bs.getD 24 0)) := by obtain ⟨b', o', e, hc⟩ := h 24 (by omega); cases e; exact hc
    have hc25 : w.cell? ⟨b, o + 25, none⟩ = some (.int .u8 (bs.getD 25 0)) := by obtain ⟨b', o', e, hc⟩ := h 25 (by omega); cases e; exact hc
    have HQ := Lib.hid (hr (by omega))
    have HI := Lib.hid (hi (by omega))
    clear hi h hr
    have i1 : ¬ (bs.length : Int) < 26 := by omega
    have i2 : ∀ k : Nat, k ≤ 25 → (k : Int) < (bs.length : Int) := fun k hk => by omega
    have l0 : (0 : Int) < (bs.length : Int) := i2 0 (by decide)
    have l24 : (24 : Int) < (bs.length : Int) := i2 24 (by decide)
    have l25 : (25 : Int) < (bs.length : Int) := i2 25 (by decide)
    have m0 : 0 < bs.length := by omega
    have m24 : 24 < bs.length := by omega
    have m25 : 25 < bs.length := by omega
    clear i2
    generalize bs.getD 0 0 = y0 at *
    generalize bs.getD 24 0 = y24 at *
    generalize bs.getD 25 0 = y25 at *
    generalize bs.length = m at *
    by_cases e0 : y0 = 208
    · by_cases e24 : y24 = 3
      · subst e0 e24
        by_cases hrr : r < 0
        · rw [if_pos (fun h => HQ.out.1 hrr h.2.2)]
          clear HQ
          simp only [errV]
          go_enter Tryd.func26, Tryd.ntmps26
          go_wp2_with fail
          refine HI.out.mono ?_
          rintro e w' ⟨rfl, rfl⟩
          clear HI
          go_wp2
          go_ret
          exact ⟨rfl, rfl⟩
        · have hR : R := Decidable.byContradiction fun h => hrr (HQ.out.2 h)
          rw [if_neg (fun h => h ⟨rfl, rfl, hR⟩)]
          clear HQ hR
          rcases (show m < n ∨ n < m ∨ m = n from by omega) with h1 | h1 | h1
          · rw [if_pos h1]
            simp only [errV]
            go_enter Tryd.func26, Tryd.ntmps26
            go_wp2_with fail
            refine HI.out.mono ?_
            rintro e w' ⟨rfl, rfl⟩
            clear HI
            go_wp2
            go_ret
            exact ⟨rfl, rfl⟩
          · rw [if_neg (by omega), if_pos h1]
            have h2 : ¬ m < n := by omega
            simp only [errV]
            go_enter Tryd.func26, Tryd.ntmps26
            go_wp2_with fail
            refine HI.out.mono ?_
            rintro e w' ⟨rfl, rfl⟩
            clear HI
            go_wp2
            go_ret
            exact ⟨rfl, rfl⟩
          · rw [if_neg (by omega), if_neg (by omega)]
            subst h1
            simp only [errV]
            go_enter Tryd.func26, Tryd.ntmps26
            go_wp2_with fail
            refine HI.out.mono ?_
            rintro e w' ⟨rfl, rfl⟩
            clear HI
            go_wp2
            go_ret
            exact ⟨rfl, rfl⟩
      · rw [if_pos (fun h => e24 h.2.1)]
        subst e0
        have e1 : (y24 == 3) = false := by simpa using e24
        have e2 : (y24 != 3) = true := by simpa using e24
        clear HQ HI
        simp only [errV]
        go_enter Tryd.func26, Tryd.ntmps26
        go_wp2
        go_ret
        exact ⟨rfl, rfl⟩
    · rw [if_pos (fun h => e0 h.1)]
      have e1 : (y0 == 208) = false := by simpa using e0
      have e2 : (y0 != 208) = true := by simpa using e0
      clear HQ HI
      simp only [errV]
      go_enter Tryd.func26, Tryd.ntmps26
      go_wp2
      go_ret
      exact ⟨rfl, rfl⟩
end Go.Proofs.YtflckkeaakmojaaDoor
