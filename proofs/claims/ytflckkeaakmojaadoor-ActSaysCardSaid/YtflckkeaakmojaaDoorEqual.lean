/-
  bytes.Equal of two rows of bytes, of which each has one at least. Conditions: the rows lie where the slices say ('Lie'), their numbers are bytes.
-/
import Derived.Test.YtflckkeaakmojaaDoorByt
import Derived.Lib.Bytes
namespace Go.Proofs.YtflckkeaakmojaaDoor
open Go.RowKit

/-- Each is a byte. -/
def Bytes (bs : List Int) : Prop := ∀ i, 0 ≤ bs.getD i 0 ∧ bs.getD i 0 < 256
theorem nums_inj : ∀ (xs ys : List Int), Bytes xs → Bytes ys → (strOfNums xs).toList = (strOfNums ys).toList → xs = ys := by
  have key : ∀ (xs ys : List Int), (∀ x ∈ xs, 0 ≤ x ∧ x < 256) → (∀ y ∈ ys, 0 ≤ y ∧ y < 256) → (xs.map fun n => UInt8.ofNat n.toNat) = (ys.map fun n => UInt8.ofNat n.toNat) → xs = ys := by
    intro xs
    induction xs with
    | nil => intro ys _ _ h; cases ys with
      | nil => rfl
      | cons y ys => simp at h
    | cons x xs ih => intro ys hx hy h; cases ys with
      | nil => simp at h
      | cons y ys =>
        simp only [List.map_cons, List.cons.injEq] at h
        obtain ⟨h1, h2⟩ := h
        have hx0 := hx x (by simp)
        have hy0 := hy y (by simp)
        have h3 := congrArg UInt8.toNat h1
        simp only [UInt8.toNat_ofNat'] at h3
        rw [Nat.mod_eq_of_lt (by omega), Nat.mod_eq_of_lt (by omega)] at h3
        obtain rfl : x = y := by omega
        rw [ih ys (fun z hz => hx z (by simp [hz])) (fun z hz => hy z (by simp [hz])) h2]
  intro xs ys hx hy h
  have mem : ∀ l : List Int, Bytes l → ∀ x ∈ l, 0 ≤ x ∧ x < 256 := by
    intro l hl x hx
    obtain ⟨i, hi, rfl⟩ := List.mem_iff_getElem.1 hx
    have := hl i
    rwa [List.getD_eq_getElem?_getD, List.getElem?_eq_getElem hi] at this
  refine key xs ys (mem xs hx) (mem ys hy) ?_
  rw [Lib.strOfNums_toList, Lib.strOfNums_toList] at h
  exact h
theorem conv_lie {w : World} {p : Option Addr} {xs : List Int} (h : Lie w p xs) (h0 : 0 < xs.length) (c : Nat) :
    (convert 28 9 (.slice p xs.length c)).run Tryd.prog w = .ok (.string (strOfNums xs)) w := by
  obtain ⟨b, o, rfl, _⟩ := h 0 h0
  exact run_convert_bytes_arg (P := Tryd.prog) w 28 5 Tryd.underlying28 Tryd.underlying5 b o xs.length c xs rfl (fun i hi => by obtain ⟨b', o', e, hc⟩ := h i hi; cases e; exact hc) 9 Tryd.underlying9
theorem equal_any (p q : Option Addr) (c d : Nat) (xs ys : List Int) (w : World) (hx : Lie w p xs) (hy : Lie w q ys) (h0 : 0 < xs.length) (h1 : 0 < ys.length) (bx : Bytes xs) (by_ : Bytes ys) :
    Calls Tryd.prog 29 #[.slice p xs.length c, .slice q ys.length d] w fun e w' => e = .returned (.bool (decide (xs = ys))) ∧ w = w' := by
  have c1 := conv_lie hx h0 c
  have c2 := conv_lie hy h1 d
  have hd : decide (xs = ys) = ((strOfNums xs).toList == (strOfNums ys).toList) := by
    by_cases h : xs = ys
    · subst h; simp
    · rw [decide_eq_false h]; exact (beq_eq_false_iff_ne.2 (fun e => h (nums_inj xs ys bx by_ e))).symm
  rw [hd]
  generalize strOfNums xs = s at *
  generalize strOfNums ys = t at *
  clear hd hx hy bx by_
  generalize xs.length = n at *
  generalize ys.length = m at *
  go_enter Tryd.func29, Tryd.ntmps29
  go_wp2
  go_ret
  exact ⟨rfl, rfl⟩
end Go.Proofs.YtflckkeaakmojaaDoor
