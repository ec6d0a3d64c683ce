/-
  tim.may: whether an element may be. Conditions: the stations lie where the slice says ('LieI').
-/
import Derived.Test.YtchoeafkjgcmbaaDoorTimLaw
import Derived.Test.YtchoeafkjgcmbaaDoorRow
namespace Go.Proofs.YtchoeafkjgcmbaaDoor
open Go.RowKit

def timV (count period : Int) (group : Bool) (s : Value) : Value := .agg #[.int .i64 count, .int .i64 period, .bool group, s]
/-- How numbers lie at an address. -/
def LieI (w : World) (p : Option Addr) (xs : List Int) : Prop := ∀ k, k < xs.length → ∃ b o, p = some ⟨b, o, none⟩ ∧ w.cell? ⟨b, o + k, none⟩ = some (.int .i64 (xs.getD k 0))
theorem LieI.gro {w w' : World} {p : Option Addr} {xs : List Int} {row : Option Nat} (h : LieI w p xs) (k : Gro row w w') (hr : ∀ a, p = some a → some a.block ≠ row) : LieI w' p xs := by
  intro j hj
  obtain ⟨b, o, e, hc⟩ := h j hj
  exact ⟨b, o, e, (k.cell (p := ⟨b, o + j, none⟩) (block_lt_of_cell hc) (by have := hr _ e; exact this)).trans hc⟩
theorem LieI.nil (w : World) (p : Option Addr) : LieI w p [] := fun k hk => by simp at hk

set_option maxHeartbeats 2000000 in
theorem may_any (count period : Int) (group : Bool) (p : Option Addr) (cap : Nat) (xs : List Int) (w : World) (h : LieI w p xs) (hlen : xs.length ≤ 100000) :
    Calls Tryd.prog 19 #[timV count period group (.slice p xs.length cap)] w fun e w' => e = .returned (.bool (decide (okT count period xs))) ∧ Gro none w w' := by
  have HX := Lib.hid (fun w' (k : Gro none w w') => h.gro k (by simp))
  have HN := Lib.hid hlen
  clear h hlen
  unfold timV
  by_cases h1 : 1 ≤ period
  · by_cases h2 : period ≤ 255
    · by_cases h3 : 0 ≤ count
      · by_cases h4 : count < period
        · have HD : Hid (decide (okT count period xs) = decide (rising xs)) := decide_eq_decide.2 ⟨fun h => h.2.2, fun h => ⟨⟨h1, h2⟩, ⟨h3, h4⟩, h⟩⟩
          rw [HD.out]
          clear HD
          generalize hn : xs.length = n at *
          have HLN := Lib.hid hn
          clear hn
          go_enter Tryd.func19, Tryd.ntmps19
          go_wp2_with fail
          have hg0 : Gro none w (w.alloc (.cells #[.int .i64 count, .int .i64 period, .bool group, .slice p n cap] 24)) := (Gro.refl _ _).alloc _
          generalize w.alloc (.cells #[.int .i64 count, .int .i64 period, .bool group, .slice p n cap] 24) = w1 at *
          have HG := Lib.hid hg0
          clear hg0 h1 h2 h3 h4
          go_loopw [3, 29] (fun l i wr => ∃ k : Nat, k ≤ n ∧ i = .int .i64 k ∧ l = .int .i64 ((0 :: xs).getD k 0) ∧ Gro none w1 wr ∧ ∀ j, j < k → (0 :: xs).getD j 0 < xs.getD j 0 ∧ xs.getD j 0 ≤ 2007) (fun _ i _ => n - (intOf i).toNat)
          case atStart => exact ⟨0, Nat.zero_le _, rfl, rfl, Gro.refl _ _, fun j hj => by omega⟩
          case round =>
            obtain ⟨k, hk, rfl, rfl, hg, he⟩ := hrel
            have HE := Lib.hid he
            have HGG := Lib.hid hg
            clear he
            by_cases h6 : k < n
            · obtain ⟨b, o, rfl, c1⟩ := HX.out _ (HG.out.trans hg) k (by have := HLN.out; omega)
              have i0 : (0 : Int) ≤ (k : Int) := by omega
              have i1 : (k : Int) < (n : Int) := by omega
              have i2 := HN.out
              clear hg HX
              have HS : Hid ((0 :: xs).getD (k + 1) 0 = xs.getD k 0) := by unfold Hid; rw [List.getD_cons_succ]
              have HF : Hid (¬ ((0 :: xs).getD k 0 < xs.getD k 0 ∧ xs.getD k 0 ≤ 2007) → decide (rising xs) = false) := fun hn => decide_eq_false (fun hr => hn (hr k (by have := HLN.out; omega)))
              have HT : Hid (((0 :: xs).getD k 0 < xs.getD k 0 ∧ xs.getD k 0 ≤ 2007) → ∀ j, j < k + 1 → (0 :: xs).getD j 0 < xs.getD j 0 ∧ xs.getD j 0 ≤ 2007) := fun h j hj => by
                rcases (show j < k ∨ j = k from by omega) with h' | rfl
                · exact HE.out j h'
                · exact h
              generalize xs.getD k 0 = v at *
              generalize (0 :: xs).getD k 0 = l at *
              by_cases hv1 : l < v
              · by_cases hv2 : v ≤ 2007
                · have HT' := Lib.hid (HT.out ⟨hv1, hv2⟩)
                  clear HT HF
                  have hn1 : ¬ v ≤ l := by omega
                  have hn2 : ¬ 2007 < v := by omega
                  go_wp2_with fail
                  go_roundw
                  case rel => exact ⟨k + 1, by omega, by go_num, by rw [HS.out], HGG.out, HT'.out⟩
                  case measure => simp [intOf]; omega
                · have hf := HF.out (by omega)
                  have hf := Lib.hid hf
                  clear HT HF HS
                  have hn1 : ¬ v ≤ l := by omega
                  have hn2 : 2007 < v := by omega
                  go_wp2_with fail
                  go_ret
                  first | exact ⟨rfl, HG.out.trans HGG.out⟩ | exact ⟨ret_bool hf.out.symm, HG.out.trans HGG.out⟩
              · have hf := HF.out (by omega)
                have hf := Lib.hid hf
                clear HT HF HS
                have hn1 : v ≤ l := by omega
                go_wp2_with fail
                go_ret
                first | exact ⟨rfl, HG.out.trans HGG.out⟩ | exact ⟨ret_bool hf.out.symm, HG.out.trans HGG.out⟩
            · obtain rfl : k = n := by omega
              have hd : decide (rising xs) = true := decide_eq_true (fun j hj => HE.out j (by have := HLN.out; omega))
              have hd := Lib.hid hd
              clear HX
              go_wp2_with fail
              go_ret
              exact ⟨ret_bool hd.out.symm, HG.out.trans HGG.out⟩
        · rw [decide_eq_false (fun h => h4 h.2.1.2)]
          have h5 : period ≤ count := by omega
          have n1 : ¬ period < 1 := by omega
          have n2 : ¬ 255 < period := by omega
          have n3 : ¬ count < 0 := by omega
          generalize xs.length = n at *
          go_enter Tryd.func19, Tryd.ntmps19
          go_wp2_with fail
          go_ret
          exact ⟨rfl, (Gro.refl _ _).alloc _⟩
      · rw [decide_eq_false (fun h => h3 h.2.1.1)]
        have n1 : ¬ period < 1 := by omega
        have n2 : ¬ 255 < period := by omega
        have n3 : count < 0 := by omega
        generalize xs.length = n at *
        go_enter Tryd.func19, Tryd.ntmps19
        go_wp2_with fail
        go_ret
        exact ⟨rfl, (Gro.refl _ _).alloc _⟩
    · rw [decide_eq_false (fun h => h2 h.1.2)]
      have n1 : ¬ period < 1 := by omega
      have n2 : 255 < period := by omega
      generalize xs.length = n at *
      go_enter Tryd.func19, Tryd.ntmps19
      go_wp2_with fail
      go_ret
      exact ⟨rfl, (Gro.refl _ _).alloc _⟩
  · rw [decide_eq_false (fun h => h1 h.1.1)]
    have n1 : period < 1 := by omega
    generalize xs.length = n at *
    go_enter Tryd.func19, Tryd.ntmps19
    go_wp2_with fail
    go_ret
    exact ⟨rfl, (Gro.refl _ _).alloc _⟩
end Go.Proofs.YtchoeafkjgcmbaaDoor
