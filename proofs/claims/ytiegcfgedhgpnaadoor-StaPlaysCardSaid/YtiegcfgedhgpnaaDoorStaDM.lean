/-
  THE DOCUMENT's TABLE OF CHAPTER 22 WALKED, MORE: All, Del. Conditions: the block is whole ('DTab').
-/
import Derived.Test.YtiegcfgedhgpnaaDoorStaDW
namespace Go.Proofs.YtiegcfgedhgpnaaDoor
open Go.RowKit

theorem allL_in' (T : Nat → Sone) (K : Nat) (hK : 1 ≤ K) (h : (T (K - 1)).th = true) : allL T K = allL T (K - 1) ++ [(K : Int)] := by
  obtain ⟨k, rfl⟩ : ∃ k, K = k + 1 := ⟨K - 1, by omega⟩
  rw [show k + 1 - 1 = k from rfl] at *
  rw [allL_in T k h, Int.natCast_add]
  rfl
theorem allL_out' (T : Nat → Sone) (K : Nat) (hK : 1 ≤ K) (h : (T (K - 1)).th = false) : allL T K = allL T (K - 1) := by
  obtain ⟨k, rfl⟩ : ∃ k, K = k + 1 := ⟨K - 1, by omega⟩
  exact allL_out T k h
theorem dall_any (b : Nat) (w : World) (T : Nat → Sone) (h : DTab b w T) :
    Calls Tryd.prog 20 #[.pointer (some ⟨b, 0, none⟩)] w fun e w' => ∃ v, e = .returned v ∧ Gro none w w' ∧ w'.ownsRow w.heap.size 3 1 v (allL T 16).length ((allL T 16).map (Value.int .i64)) := by
  obtain ⟨i0, hi, hz0, hz1, hz2⟩ := info_int
  have HT := Lib.hid h
  clear h
  go_enter Tryd.func20, Tryd.ntmps20
  go_wp2_with fail
  go_loopw [3, 4] (fun v i wr => ∃ K : Nat, 1 ≤ K ∧ K ≤ 17 ∧ i = .int .i64 K ∧ wr.ownsRow w.heap.size 3 1 v (allL T (K - 1)).length ((allL T (K - 1)).map (Value.int .i64)) ∧ Gro none w wr) (fun _ i _ => 17 - (intOf i).toNat)
  case atStart => exact ⟨1, by decide, by decide, rfl, World.ownsRow_nil _ _ _ _, Gro.refl _ _⟩
  case round =>
    obtain ⟨K, hK1, hK, rfl, hown, hW⟩ := hrel
    by_cases h16 : K ≤ 16
    · have hj : K - 1 < 16 := by omega
      have cth := (HT.out.gro hW (by simp)).there (K - 1) hj
      rw [show 103 + (K - 1) = 102 + K by omega] at cth
      have i0 : (0 : Int) ≤ (K : Int) := by omega
      have i1 : (K : Int) ≤ 16 := by omega
      have i2 : (K : Int) < 17 := by omega
      cases hth : (T (K - 1)).th with
      | false =>
        rw [hth] at cth
        have hl := Lib.hid (allL_out' T K hK1 hth)
        clear hth
        have HO := Lib.hid hown
        clear hown
        go_wp2_with fail
        go_roundw
        case rel => exact ⟨K + 1, by omega, by omega, by go_num, by rw [Nat.add_sub_cancel, hl.out]; exact HO.out, hW⟩
        case measure => simp [intOf]; omega
      | true =>
        rw [hth] at cth
        have hl := Lib.hid (allL_in' T K hK1 hth)
        have hle := Lib.hid (allL_le T (K - 1))
        clear hth
        go_wp2_with (at_builtin; refine wpList_append_own _ rfl _ _ 22 rfl w.heap.size 3 _ (.int .i64 0) 1 8 Tryd.underlying22 hi hz0 hz1 hz2 rfl (by decide) _ _ _ rfl (hown.alloc _) ⟨wr.heap.size, 0, none⟩ 1 1 [.int .i64 (K : Int)] rfl rfl ?c1 ?c2 ?c3 ?c4 ?c5 ?_)
        case c1 =>
          intro j u hj
          match j, hj with
          | 0, hj => simp at hj; subst hj; simp [Addr.add]
        case c2 => intro u hu; simp at hu; subst hu; rfl
        case c3 => have := hle.out; unfold maxLen; omega
        case c4 => have := hle.out; omega
        case c5 => have := hW.size; simp; omega
        intro v' w1 hown' hgrow _
        have hg : Gro none w w1 := (hW.alloc _).grown hgrow (fun g e => ((hown.lt) g e).1)
        have HO : Hid (w1.ownsRow w.heap.size 3 1 v' (allL T K).length ((allL T K).map (Value.int .i64))) := by
          unfold Hid
          rw [hl.out]; simpa using hown'
        have HG := Lib.hid hg
        clear hown hown' hgrow hg hW
        go_wp2_with fail
        go_roundw
        case rel => exact ⟨K + 1, by omega, by omega, by go_num, HO.out, HG.out⟩
        case measure => simp [intOf]; omega
    · obtain rfl : K = 17 := by omega
      go_wp2_with fail
      go_ret
      exact ⟨_, rfl, hW, hown⟩
theorem ddel_out (b : Nat) (a : Int) (w : World) (h : ¬(1 ≤ a ∧ a ≤ 16)) :
    Calls Tryd.prog 17 #[.pointer (some ⟨b, 0, none⟩), .int .i64 a] w fun e w' => e = .returned (.int .i64 107) ∧ Gro none w w' := by
  have HA := Lib.hid (daid_any a w)
  rw [decide_eq_false h] at HA
  clear h
  go_enter Tryd.func17, Tryd.ntmps17
  go_wp2_with fail
  refine HA.out.mono ?_
  rintro e w1 ⟨rfl, hg⟩
  have HG := Lib.hid hg
  clear hg
  go_wp2_with fail
  go_ret
  exact ⟨rfl, HG.out⟩
theorem ddel_gone (b : Nat) (a : Int) (j : Nat) (w : World) (T : Nat → Sone) (h : DTab b w T) (hj : j < 16) (ha : a = j + 1) (ht : (T j).th = false) :
    Calls Tryd.prog 17 #[.pointer (some ⟨b, 0, none⟩), .int .i64 a] w fun e w' => e = .returned (.int .i64 107) ∧ Gro none w w' := by
  obtain ⟨K, hK⟩ : ∃ K, K = j + 1 := ⟨_, rfl⟩
  obtain rfl : a = (K : Int) := by omega
  have HA := Lib.hid (daid_any (K : Int) w)
  rw [decide_eq_true (by omega)] at HA
  have HC := Lib.hid (fun w' (k : Gro none w w') => (h.gro k (by simp)).there j hj)
  rw [ht, show 103 + j = 102 + K by omega] at HC
  have i0 : (0 : Int) ≤ (K : Int) := by omega
  have i2 : (K : Int) < 17 := by omega
  clear h ht hj ha hK
  go_enter Tryd.func17, Tryd.ntmps17
  go_wp2_with fail
  refine HA.out.mono ?_
  rintro e w1 ⟨rfl, hg⟩
  have cth := HC.out _ hg
  have HG := Lib.hid hg
  clear hg
  go_wp2_with fail
  go_ret
  exact ⟨rfl, HG.out⟩
end Go.Proofs.YtiegcfgedhgpnaaDoor
