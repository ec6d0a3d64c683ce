/-
  All: the numbers that somebody has, in order. Conditions: the block is whole ('Tab').
-/
import Derived.Test.YtiegcfgedhgpnaaDoorStaNew
namespace Go.Proofs.YtiegcfgedhgpnaaDoor
open Go.RowKit

/-- The numbers among the first k that somebody has. -/
def allL (T : Nat → Sone) : Nat → List Int
  | 0 => []
  | k + 1 => if (T k).th then allL T k ++ [(k : Int) + 1] else allL T k
theorem allL_le (T : Nat → Sone) : ∀ k, (allL T k).length ≤ k
  | 0 => Nat.le_refl _
  | k + 1 => by
    have := allL_le T k
    unfold allL
    split
    · simp; omega
    · omega
theorem allL_in (T : Nat → Sone) (k : Nat) (h : (T k).th = true) : allL T (k + 1) = allL T k ++ [(k : Int) + 1] := by rw [allL, if_pos h]
theorem allL_out (T : Nat → Sone) (k : Nat) (h : (T k).th = false) : allL T (k + 1) = allL T k := by rw [allL, if_neg (by simp [h])]

theorem info_int : ∃ i, Tryd.prog.info? 3 = some i ∧ i.zero = some (.int .i64 0) ∧ i.size = 1 ∧ i.bytes = 8 :=
  have h := Option.map_eq_some_iff.1 (show (Tryd.prog.info? 3).map (fun i => (i.zero, i.size, i.bytes)) = some (some (.int .i64 0), 1, 8) by kernel_rfl)
  by
    obtain ⟨i, h1, h2⟩ := h
    simp at h2
    exact ⟨i, h1, h2.1, h2.2.1, h2.2.2⟩

theorem Gro.grown {w wr w' : World} {row : Option Nat} (h : Gro none w wr) (k : wr.grownBy w' row) (hr : ∀ g, row = some g → w.heap.size ≤ g) : Gro none w w' :=
  ⟨k.os.trans h.os, k.output.trans h.output, Nat.le_trans h.size k.size, fun i hi _ => (k.block i (Nat.lt_of_lt_of_le hi h.size) (fun e => by have := hr i e.symm; omega)).trans (h.block i hi (by simp))⟩

theorem all_any (b : Nat) (w : World) (T : Nat → Sone) (h : Tab b w T) :
    Calls Tryd.prog 14 #[.pointer (some ⟨b, 0, none⟩)] w fun e w' => ∃ v, e = .returned v ∧ Gro none w w' ∧ w'.ownsRow w.heap.size 3 1 v (allL T 16).length ((allL T 16).map (Value.int .i64)) := by
  obtain ⟨i0, hi, hz0, hz1, hz2⟩ := info_int
  obtain ⟨C, hC0, hTC⟩ := h
  obtain ⟨cs, rfl⟩ : ∃ cs : List Value, C = cs.toArray := ⟨C.toList, (Array.toArray_toList).symm⟩
  have hlen : cs.length = 128 := by simpa using hTC.1
  have hcs : Hid (∀ (j : Nat) (v : Value), cs[j]? = some v → w.cell? ((⟨b, 0, none⟩ : Addr).add j) = some v) := by
    intro j v hv
    have hadd : (⟨b, 0, none⟩ : Addr).add j = ⟨b, j, none⟩ := by unfold Addr.add; split <;> simp_all
    rw [hadd, cell_of_row _ _ _ _ _ _ hC0]
    simpa using hv
  have hidx := Lib.hid (fun (k : Nat) (hk : k < 16) (w : World) => index_at cs.toArray T hTC k hk w)
  have hinfo : (Tryd.prog.info? 28).map (·.size) = some cs.length := by rw [hlen]; kernel_rfl
  clear hC0 hTC
  go_enter Tryd.func14, Tryd.ntmps14
  go_wp2_with (refine wpList_load_list rfl 28 _ rfl ⟨b, 0, none⟩ rfl _ _ hcs.out Tryd.underlying28 rfl hinfo ?_; clear hcs hinfo)
  go_loopw [3, 10] (fun v i wr => ∃ k : Nat, k ≤ 16 ∧ i = .int .i64 k ∧ wr.ownsRow w.heap.size 3 1 v (allL T k).length ((allL T k).map (Value.int .i64)) ∧ Gro none w wr) (fun _ i _ => 16 - (intOf i).toNat)
  case atStart => exact ⟨0, Nat.zero_le _, rfl, World.ownsRow_nil _ _ _ _, Gro.refl _ _⟩
  case round =>
    obtain ⟨k, hk, rfl, hown, hW⟩ := hrel
    by_cases h16 : k < 16
    · have hix := hidx.out k h16 wr
      cases hth : (T k).th with
      | false =>
        have hl := Lib.hid (allL_out T k hth)
        generalize T k = o at hth hix
        obtain ⟨th, ⟨a0, a1, a2, a3, a4, a5⟩, ep⟩ := o
        unfold soneV at hix
        simp only at hth hix
        subst hth
        have HO := Lib.hid hown
        clear hown
        go_wp2_with fail
        go_roundw
        case rel => exact ⟨k + 1, by omega, by go_num, by rw [hl.out]; exact HO.out.alloc _, hW.alloc _⟩
        case measure => simp [intOf]; omega
      | true =>
        have hl := Lib.hid (allL_in T k hth)
        have hle := Lib.hid (allL_le T k)
        generalize T k = o at hth hix
        obtain ⟨th, ⟨a0, a1, a2, a3, a4, a5⟩, ep⟩ := o
        unfold soneV at hix
        simp only at hth hix
        subst hth
        go_wp2_with (at_builtin; refine wpList_append_own _ rfl _ _ 22 rfl w.heap.size 3 i0 (.int .i64 0) 1 8 Tryd.underlying22 hi hz0 hz1 hz2 rfl (by decide) _ _ _ rfl ((hown.alloc _).alloc _) ⟨wr.heap.size + 1, 0, none⟩ 1 1 [.int .i64 ((k : Int) + 1)] rfl rfl ?c1 ?c2 ?c3 ?c4 ?c5 ?_)
        case c1 =>
          intro j u hj
          match j, hj with
          | 0, hj => simp at hj; subst hj; simp [Addr.add]
        case c2 => intro u hu; simp at hu; subst hu; rfl
        case c3 => have := hle.out; unfold maxLen; omega
        case c4 => have := hle.out; omega
        case c5 => have := hW.size; simp; omega
        intro v' w1 hown' hgrow _
        have hg : Gro none w w1 := ((hW.alloc _).alloc _).grown hgrow (fun g e => ((hown.lt) g e).1)
        have HO : Hid (w1.ownsRow w.heap.size 3 1 v' (allL T (k + 1)).length ((allL T (k + 1)).map (Value.int .i64))) := by
          unfold Hid
          rw [hl.out]; simpa using hown'
        have HG := Lib.hid hg
        clear hown hown' hgrow hg hW
        go_wp2_with fail
        go_roundw
        case rel => exact ⟨k + 1, by omega, by go_num, HO.out, HG.out⟩
        case measure => simp [intOf]; omega
    · obtain rfl : k = 16 := by omega
      go_wp2_with fail
      go_ret
      exact ⟨_, rfl, hW, hown⟩
end Go.Proofs.YtiegcfgedhgpnaaDoor
