/-
  THE WALK OF tim.Read, bytes that are none at the first look. Conditions: the bytes lie where the slice says; four sentinels' own.
-/
import Derived.Test.YtchoeafkjgcmbaaDoorTimB
import Derived.Test.YtchoeafkjgcmbaaDoorFour
import Derived.Test.YtchoeafkjgcmbaaDoorEqual
namespace Go.Proofs.YtchoeafkjgcmbaaDoor
open Go.RowKit

theorem res_tim {tmps : Array Value} {w : World} {F : Array Value} {u : Value} {g : Nat} (h2 : tmps.getD 2 undef = .pointer (some ⟨g, 0, none⟩)) (h3 : tmps.getD 3 undef = u) (hb : w.heap[g]? = some (.cells F 24 (0, 0))) (hi : (Tryd.prog.info? 24).map (·.size) = some F.size) :
    (results Tryd.f11 tmps).run Tryd.prog w = .ok (.tuple #[.agg F, u]) w := by
  have hl : (loadVar 24 ⟨g, 0, none⟩).run Tryd.prog w = .ok (.agg F) w := by
    have h := run_loadVar_list (P := Tryd.prog) w ⟨g, 0, none⟩ 24 F.toList _ (fun j v hv => by
      rw [Addr.add_mid, Nat.zero_add, cell_of_row w g j F _ (0, 0) hb]
      simpa using hv) Tryd.underlying24 rfl (by simpa using hi)
    simpa using h
  unfold results
  rw [Tryd.results11]
  rw [Array.getD_eq_getD_getElem?] at h2 h3
  simp [h2, h3, hl, asAddr]
set_option maxHeartbeats 4000000 in
theorem read_bad (p : Option Addr) (cap : Nat) (bs : List Int) (B : Nat) (A : Nat → Addr) (w : World) (hs : Four B w A) (hB : B ≤ w.heap.size) (hlen : bs.length ≤ 100000) (h : Lie w p bs) (hb : Bytes bs) (hk : timK bs ≠ 0) :
    Calls Tryd.prog 11 #[.slice p bs.length cap] w fun e w' => e = .returned (.tuple #[timV 0 0 false (.slice none 0 0), errV A (timK bs)]) ∧ Gro none w w' := by
  have hg1 : Gro none w (w.alloc (.cells #[.int .i64 0, .int .i64 0, .bool false, .slice none 0 0] 24)) := (Gro.refl _ _).alloc _
  have hs1 := hs.far (w' := w.alloc (.cells #[.int .i64 0, .int .i64 0, .bool false, .slice none 0 0] 24)) fun i hi => hg1.block i (by omega) (by simp)
  have hz := heap_alloc_new w (.cells #[.int .i64 0, .int .i64 0, .bool false, .slice none 0 0] 24)
  have hl1 := h.gro hg1 (by simp)
  obtain ⟨e0, e1, e2, e4, -⟩ := hs1
  have HG := Lib.hid hg1
  have HZ := Lib.hid hz
  have HN1 := Lib.hid hl1
  have HK := Lib.hid hk
  obtain ⟨b10, b11⟩ := hb 1
  have HH := Lib.hid hlen
  clear hg1 hz hl1 h hs hB hk hb hlen
  unfold timV
  generalize hn : bs.length = n at *
  have HLN := Lib.hid hn
  clear hn
  go_enter Tryd.func11, Tryd.ntmps11
  by_cases l2 : n < 2
  · have i0 : (n : Int) < 2 := by omega
    have hk : timK bs = 1 := by unfold timK; rw [if_pos (by rw [HLN.out]; exact l2)]
    rw [hk]
    clear hk
    go_wp2_with fail
    go_region
    (try go_wp2_with fail)
    (try simp only [Exit.inBlock, Exit.then])
    refine bodyPost_ret (res_tim rfl rfl HZ.out (by kernel_rfl)) rfl ?_
    exact ⟨rfl, HG.out.drew⟩
  · have i0 : ¬ (n : Int) < 2 := by omega
    have i1 : (2 : Int) ≤ (n : Int) := by omega
    have i2 : (0 : Int) < (n : Int) := by omega
    have i3 : (1 : Int) < (n : Int) := by omega
    have i4 : 0 < n := by omega
    have i6 : (n : Int) ≤ 100000 := by have := HH.out; omega
    have i5 : 1 < n := by omega
    obtain ⟨b, o, rfl, c0⟩ := HN1.out 0 (by rw [HLN.out]; exact i4)
    obtain ⟨b', o', e, c1⟩ := HN1.out 1 (by rw [HLN.out]; exact i5)
    injection e with e
    injection e with ea eb
    subst ea eb
    rw [Nat.add_zero] at c0
    have hT : timK bs = if bs.getD 0 0 ≠ 5 then 5 else if (n : Int) - 2 < bs.getD 1 0 then 1 else if (n : Int) - 2 > bs.getD 1 0 ∨ bs.getD 1 0 < 4 then 2 else 0 := by
      unfold timK
      rw [HLN.out, if_neg l2]
    generalize bs.getD 0 0 = v0 at *
    generalize bs.getD 1 0 = v1 at *
    by_cases h5 : v0 = 5
    · subst h5
      rw [if_neg (by simp)] at hT
      by_cases h6 : (n : Int) - 2 < v1
      · rw [if_pos h6] at hT
        rw [hT]
        clear hT
        go_wp2_with fail
        go_region
        (try go_wp2_with fail)
        (try simp only [Exit.inBlock, Exit.then])
        refine bodyPost_ret (res_tim rfl rfl HZ.out (by kernel_rfl)) rfl ?_
        exact ⟨rfl, HG.out.drew⟩
      · rw [if_neg h6] at hT
        by_cases h7 : (n : Int) - 2 > v1
        · rw [if_pos (.inl h7)] at hT
          rw [hT]
          clear hT
          have h7' : v1 < (n : Int) - 2 := h7
          go_wp2_with fail
          go_region
          (try go_wp2_with fail)
          (try simp only [Exit.inBlock, Exit.then])
          refine bodyPost_ret (res_tim rfl rfl HZ.out (by kernel_rfl)) rfl ?_
          exact ⟨rfl, HG.out.drew⟩
        · by_cases h8 : v1 < 4
          · rw [if_pos (.inr h8)] at hT
            rw [hT]
            clear hT
            have h7' : ¬ v1 < (n : Int) - 2 := h7
            go_wp2_with fail
            go_region
            (try go_wp2_with fail)
            (try simp only [Exit.inBlock, Exit.then])
            refine bodyPost_ret (res_tim rfl rfl HZ.out (by kernel_rfl)) rfl ?_
            exact ⟨rfl, HG.out.drew⟩
          · rw [if_neg (by omega)] at hT
            exact absurd hT HK.out
    · rw [if_pos h5] at hT
      rw [hT]
      clear hT
      have h5' : (v0 == 5) = false := by simpa using h5
      go_wp2_with fail
      go_region
      (try go_wp2_with fail)
      (try simp only [Exit.inBlock, Exit.then])
      refine bodyPost_ret (res_tim rfl rfl HZ.out (by kernel_rfl)) rfl ?_
      exact ⟨rfl, HG.out.drew⟩
end Go.Proofs.YtchoeafkjgcmbaaDoor
