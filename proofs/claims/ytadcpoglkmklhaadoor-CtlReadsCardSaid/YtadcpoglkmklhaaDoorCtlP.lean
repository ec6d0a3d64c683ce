/-
  THE WALK OF ctl.ReadPoll. Conditions: the fourteen sentinels' own ('Sent'); the bytes lie where the slice says.
-/
import Derived.Test.YtadcpoglkmklhaaDoorCtlB
namespace Go.Proofs.YtadcpoglkmklhaaDoor
open Go.RowKit

/-- What is amiss with a Poll's bytes of the right first byte and length: the error's number; 0: nothing. -/
def pollR (bs : List Int) : Nat := if bs.getD 1 0 ≠ 0 ∨ num2 bs 2 < 49152 then 2 else if num2 bs 2 - 49152 < 1 ∨ 2007 < num2 bs 2 - 49152 then 3 else 0

set_option maxHeartbeats 4000000 in
set_option maxRecDepth 100000 in
theorem readPoll_any (p : Option Addr) (cap : Nat) (bs : List Int) (B : Nat) (A : Nat → Addr) (w : World) (hs : Four B w A) (hB : B ≤ w.heap.size) (hcap : bs.length ≤ cap) (h : Lie w p bs) (hb : Bytes bs) (hr : longR bs 164 16 = 0) :
    Calls Tryd.prog 20 #[.slice p bs.length cap] w fun e w' => e = .returned (.tuple #[if pollR bs = 0 then pollV (num2 bs 2 - 49152) (ad6 bs 4) (ad6 bs 10) else pollV 0 adZ adZ, errV A (pollR bs)]) ∧ Gro none w w' := by
  have HL := Lib.hid (fun w' (k : Gro none w w') => long_any p cap bs 164 16 B A w' (hs.far fun i hi => k.block i (by omega) (by simp)) (by decide) (h.gro k (by simp)) (by decide))
  rw [hr] at HL
  obtain ⟨hlen, -⟩ := longR_zero hr
  obtain ⟨b, o, rfl, -⟩ := h 0 (by omega)
  have HN : Hid (∀ w', Gro none w w' → Calls Tryd.prog 40 #[.slice (some ⟨b, o + 2, none⟩) (16 - 2) (cap - 2)] w' fun e w'' => e = .returned (.int .i64 (num2 bs 2)) ∧ ∃ m, w'.drewN m = w'') := fun w' k => number_at2 b (o + 2) (16 - 2) (cap - 2) (bs.getD 2 0) (bs.getD 3 0) w' (by decide)
    (by obtain ⟨b', o', e, hc⟩ := h.gro k (by simp) 2 (by omega); cases e; exact hc) (by obtain ⟨b', o', e, hc⟩ := h.gro k (by simp) 3 (by omega); cases e; exact hc) (hb 2) (hb 3)
  have HY : Hid (∀ w', Gro none w w' → w'.cell? ⟨b, o + 1, none⟩ = some (.int .u8 (bs.getD 1 0))) := fun w' g => by
    obtain ⟨b', o', e, hc⟩ := (h.gro g (by simp)) 1 (by omega)
    cases e; exact hc
  have HLI := Lib.hid (fun w' (k : Gro none w w') => h.gro k (by simp))
  have HS := Lib.hid (fun w' (k : Gro none w w') => (show Four B w' A from hs.far fun i hi => k.block i (by omega) (by simp)))
  obtain ⟨p0, p1⟩ : 0 ≤ num2 bs 2 ∧ num2 bs 2 < 65536 := by have := hb 2; have := hb (2 + 1); unfold num2; omega
  have hPR : pollR bs = if bs.getD 1 0 ≠ 0 ∨ num2 bs 2 < 49152 then 2 else if num2 bs 2 - 49152 < 1 ∨ 2007 < num2 bs 2 - 49152 then 3 else 0 := rfl
  have HPR := Lib.hid hPR
  generalize pollR bs = R at *
  have hy01 := hb 1
  generalize num2 bs 2 = M at *
  generalize bs.getD 1 0 = y at *
  obtain ⟨N, hN⟩ : ∃ N, N = M - 49152 := ⟨_, rfl⟩
  rw [← hN] at HPR ⊢
  have HN2 := Lib.hid hN
  clear hN
  have hblt : b < w.heap.size := h.lt (by omega)
  have hne : ¬ 1 = w.heap.size := by have := hs.big; omega
  have hne' : ¬ w.heap.size = 1 := by have := hs.big; omega
  have hnr : ¬ 0 = w.heap.size := by have := hs.big; omega
  have hnr' : ¬ w.heap.size = 0 := by have := hs.big; omega
  have HLN := Lib.hid hlen
  have i1 : (16 : Int) ≤ (cap : Int) := by omega
  have d1 : ¬ cap = 2 := by omega
  have d2 : ¬ cap = 4 := by omega
  have d3 : ¬ cap = 10 := by omega
  have i2 : (2 : Int) ≤ (cap : Int) := by omega
  have i3 : (4 : Int) ≤ (cap : Int) := by omega
  have i4 : (10 : Int) ≤ (cap : Int) := by omega
  have i5 : 16 ≤ cap := by omega
  clear hs h hb hr hPR
  rw [hlen] at HL ⊢
  clear hlen hcap
  unfold pollV adZ
  simp only
  go_enter Tryd.func20, Tryd.ntmps20
  go_wp2_with fail
  have hg0 : Gro none w (w.alloc (.cells #[.int .i64 0, .int .u8 0, .int .u8 0, .int .u8 0, .int .u8 0, .int .u8 0, .int .u8 0, .int .u8 0, .int .u8 0, .int .u8 0, .int .u8 0, .int .u8 0, .int .u8 0] 30)) := (Gro.refl _ _).alloc _
  have hz0 := heap_alloc_new w (.cells #[.int .i64 0, .int .u8 0, .int .u8 0, .int .u8 0, .int .u8 0, .int .u8 0, .int .u8 0, .int .u8 0, .int .u8 0, .int .u8 0, .int .u8 0, .int .u8 0, .int .u8 0] 30)
  have hs1 : (w.alloc (.cells #[.int .i64 0, .int .u8 0, .int .u8 0, .int .u8 0, .int .u8 0, .int .u8 0, .int .u8 0, .int .u8 0, .int .u8 0, .int .u8 0, .int .u8 0, .int .u8 0, .int .u8 0] 30)).heap.size = w.heap.size + 1 := by simp
  generalize w.alloc (.cells #[.int .i64 0, .int .u8 0, .int .u8 0, .int .u8 0, .int .u8 0, .int .u8 0, .int .u8 0, .int .u8 0, .int .u8 0, .int .u8 0, .int .u8 0, .int .u8 0, .int .u8 0] 30) = w1 at *
  have HG0 := Lib.hid hg0
  have HZ0 := Lib.hid hz0
  clear hg0 hz0
  refine (HL.out _ HG0.out).mono ?_
  rintro e w' ⟨rfl, rfl⟩
  simp only [errV]
  go_wp2_with fail
  refine (HN.out _ HG0.out).mono ?_
  rintro e wX ⟨rfl, m, rfl⟩
  have HX : Hid (Gro none w (w1.drewN m)) := HG0.out.drewN m
  have HZX : Hid ((w1.drewN m).heap[w.heap.size]? = some (.cells #[.int .i64 0, .int .u8 0, .int .u8 0, .int .u8 0, .int .u8 0, .int .u8 0, .int .u8 0, .int .u8 0, .int .u8 0, .int .u8 0, .int .u8 0, .int .u8 0, .int .u8 0] 30 (0, 0))) := HZ0.out
  have hsX : (w1.drewN m).heap.size = w.heap.size + 1 := hs1
  generalize w1.drewN m = wX at *
  have hy := HY.out _ HX.out
  clear HL HN HY HG0 HZ0 hs1
  rcases (show (¬ y = 0) ∨ (y = 0 ∧ M < 49152) ∨ (y = 0 ∧ 49152 ≤ M) from by omega) with h1 | ⟨rfl, h2⟩ | ⟨rfl, h2⟩
  · have hR : R = 2 := by rw [HPR.out]; exact if_pos (.inl h1)
    have h1' : (y == 0) = false := by simpa using h1
    have h1'' : (y != 0) = true := by simpa using h1
    clear HPR
    have hsh := (HS.out _ HX.out).c1
    have hsr := (HS.out _ HX.out).c2
    have hf : ∀ j, wX.frozen? ⟨w.heap.size, j, none⟩ = false := fun j => frozen_of_row wX w.heap.size j _ _ HZX.out
    have z0 := cell_of_row wX w.heap.size 0 _ _ _ HZX.out
    have z1 := cell_of_row wX w.heap.size 1 _ _ _ HZX.out
    have z2 := cell_of_row wX w.heap.size 2 _ _ _ HZX.out
    have z3 := cell_of_row wX w.heap.size 3 _ _ _ HZX.out
    have z4 := cell_of_row wX w.heap.size 4 _ _ _ HZX.out
    have z5 := cell_of_row wX w.heap.size 5 _ _ _ HZX.out
    have z6 := cell_of_row wX w.heap.size 6 _ _ _ HZX.out
    have z7 := cell_of_row wX w.heap.size 7 _ _ _ HZX.out
    have z8 := cell_of_row wX w.heap.size 8 _ _ _ HZX.out
    have z9 := cell_of_row wX w.heap.size 9 _ _ _ HZX.out
    have z10 := cell_of_row wX w.heap.size 10 _ _ _ HZX.out
    have z11 := cell_of_row wX w.heap.size 11 _ _ _ HZX.out
    have z12 := cell_of_row wX w.heap.size 12 _ _ _ HZX.out
    simp only [List.getElem?_toArray, List.getElem?_cons_zero, List.getElem?_cons_succ] at z0 z1 z2 z3 z4 z5 z6 z7 z8 z9 z10 z11 z12

    go_wp2_with fail
    go_region
    clear hf hsh hsr
    refine gen_world (fun W' => Gro (some w.heap.size) wX W' ∧ W'.heap[w.heap.size]? = some (.cells #[.int .i64 0, .int .u8 0, .int .u8 0, .int .u8 0, .int .u8 0, .int .u8 0, .int .u8 0, .int .u8 0, .int .u8 0, .int .u8 0, .int .u8 0, .int .u8 0, .int .u8 0] 30 (0, 0))) ⟨?_, ?_⟩ ?_
    · repeat (first | with_reducible exact Gro.refl _ _ | with_reducible refine Gro.drew ?_ | with_reducible refine Gro.setCell ?_ _ _ | with_reducible refine Gro.alloc ?_ _)
    · (try rw [heap_of_drew])
      with_reducible refine store13 _ _ _ (.int .i64 0) (.int .u8 0) (.int .u8 0) (.int .u8 0) (.int .u8 0) (.int .u8 0) (.int .u8 0) (.int .u8 0) (.int .u8 0) (.int .u8 0) (.int .u8 0) (.int .u8 0) (.int .u8 0)  _ _ _ _ _ _ _ _ _ _ _ _ _  ?_
      with_reducible exact HZX.out
    clear z0 z1 z2 z3 z4 z5 z6 z7 z8 z9 z10 z11 z12
    rintro w6 ⟨hg6, hz6⟩
    have d0 := cell_of_row w6 w.heap.size 0 _ _ _ hz6
    have d1 := cell_of_row w6 w.heap.size 1 _ _ _ hz6
    have d2 := cell_of_row w6 w.heap.size 2 _ _ _ hz6
    have d3 := cell_of_row w6 w.heap.size 3 _ _ _ hz6
    have d4 := cell_of_row w6 w.heap.size 4 _ _ _ hz6
    have d5 := cell_of_row w6 w.heap.size 5 _ _ _ hz6
    have d6 := cell_of_row w6 w.heap.size 6 _ _ _ hz6
    have d7 := cell_of_row w6 w.heap.size 7 _ _ _ hz6
    have d8 := cell_of_row w6 w.heap.size 8 _ _ _ hz6
    have d9 := cell_of_row w6 w.heap.size 9 _ _ _ hz6
    have d10 := cell_of_row w6 w.heap.size 10 _ _ _ hz6
    have d11 := cell_of_row w6 w.heap.size 11 _ _ _ hz6
    have d12 := cell_of_row w6 w.heap.size 12 _ _ _ hz6
    simp only [List.getElem?_toArray, List.getElem?_cons_zero, List.getElem?_cons_succ] at d0 d1 d2 d3 d4 d5 d6 d7 d8 d9 d10 d11 d12
    have HG6 := Lib.hid hg6
    clear hg6 hz6
    (try go_wp2_with fail)
    (try simp only [Exit.inBlock, Exit.then])
    refine bodyPost_ret (by simp [results, Tryd.results20, go_sem, d0, d1, d2, d3, d4, d5, d6, d7, d8, d9, d10, d11, d12]; try rfl) rfl ?_
    refine ⟨by first | rfl | (rw [hR]; rfl), ?_⟩
    have h1 := HX.out
    have h6 := HG6.out
    exact ⟨h6.os.trans h1.os, h6.output.trans h1.output, Nat.le_trans h1.size h6.size, fun k hk _ => (h6.block k (Nat.lt_of_lt_of_le hk h1.size) (by simp; omega)).trans (h1.block k hk (by simp))⟩
  · have hR : R = 2 := by rw [HPR.out]; exact if_pos (.inr h2)
    clear HPR
    have hsh := (HS.out _ HX.out).c1
    have hsr := (HS.out _ HX.out).c2
    have hf : ∀ j, wX.frozen? ⟨w.heap.size, j, none⟩ = false := fun j => frozen_of_row wX w.heap.size j _ _ HZX.out
    have z0 := cell_of_row wX w.heap.size 0 _ _ _ HZX.out
    have z1 := cell_of_row wX w.heap.size 1 _ _ _ HZX.out
    have z2 := cell_of_row wX w.heap.size 2 _ _ _ HZX.out
    have z3 := cell_of_row wX w.heap.size 3 _ _ _ HZX.out
    have z4 := cell_of_row wX w.heap.size 4 _ _ _ HZX.out
    have z5 := cell_of_row wX w.heap.size 5 _ _ _ HZX.out
    have z6 := cell_of_row wX w.heap.size 6 _ _ _ HZX.out
    have z7 := cell_of_row wX w.heap.size 7 _ _ _ HZX.out
    have z8 := cell_of_row wX w.heap.size 8 _ _ _ HZX.out
    have z9 := cell_of_row wX w.heap.size 9 _ _ _ HZX.out
    have z10 := cell_of_row wX w.heap.size 10 _ _ _ HZX.out
    have z11 := cell_of_row wX w.heap.size 11 _ _ _ HZX.out
    have z12 := cell_of_row wX w.heap.size 12 _ _ _ HZX.out
    simp only [List.getElem?_toArray, List.getElem?_cons_zero, List.getElem?_cons_succ] at z0 z1 z2 z3 z4 z5 z6 z7 z8 z9 z10 z11 z12

    go_wp2_with fail
    go_region
    clear hf hsh hsr
    refine gen_world (fun W' => Gro (some w.heap.size) wX W' ∧ W'.heap[w.heap.size]? = some (.cells #[.int .i64 0, .int .u8 0, .int .u8 0, .int .u8 0, .int .u8 0, .int .u8 0, .int .u8 0, .int .u8 0, .int .u8 0, .int .u8 0, .int .u8 0, .int .u8 0, .int .u8 0] 30 (0, 0))) ⟨?_, ?_⟩ ?_
    · repeat (first | with_reducible exact Gro.refl _ _ | with_reducible refine Gro.drew ?_ | with_reducible refine Gro.setCell ?_ _ _ | with_reducible refine Gro.alloc ?_ _)
    · (try rw [heap_of_drew])
      with_reducible refine store13 _ _ _ (.int .i64 0) (.int .u8 0) (.int .u8 0) (.int .u8 0) (.int .u8 0) (.int .u8 0) (.int .u8 0) (.int .u8 0) (.int .u8 0) (.int .u8 0) (.int .u8 0) (.int .u8 0) (.int .u8 0)  _ _ _ _ _ _ _ _ _ _ _ _ _  ?_
      with_reducible exact HZX.out
    clear z0 z1 z2 z3 z4 z5 z6 z7 z8 z9 z10 z11 z12
    rintro w6 ⟨hg6, hz6⟩
    have d0 := cell_of_row w6 w.heap.size 0 _ _ _ hz6
    have d1 := cell_of_row w6 w.heap.size 1 _ _ _ hz6
    have d2 := cell_of_row w6 w.heap.size 2 _ _ _ hz6
    have d3 := cell_of_row w6 w.heap.size 3 _ _ _ hz6
    have d4 := cell_of_row w6 w.heap.size 4 _ _ _ hz6
    have d5 := cell_of_row w6 w.heap.size 5 _ _ _ hz6
    have d6 := cell_of_row w6 w.heap.size 6 _ _ _ hz6
    have d7 := cell_of_row w6 w.heap.size 7 _ _ _ hz6
    have d8 := cell_of_row w6 w.heap.size 8 _ _ _ hz6
    have d9 := cell_of_row w6 w.heap.size 9 _ _ _ hz6
    have d10 := cell_of_row w6 w.heap.size 10 _ _ _ hz6
    have d11 := cell_of_row w6 w.heap.size 11 _ _ _ hz6
    have d12 := cell_of_row w6 w.heap.size 12 _ _ _ hz6
    simp only [List.getElem?_toArray, List.getElem?_cons_zero, List.getElem?_cons_succ] at d0 d1 d2 d3 d4 d5 d6 d7 d8 d9 d10 d11 d12
    have HG6 := Lib.hid hg6
    clear hg6 hz6
    (try go_wp2_with fail)
    (try simp only [Exit.inBlock, Exit.then])
    refine bodyPost_ret (by simp [results, Tryd.results20, go_sem, d0, d1, d2, d3, d4, d5, d6, d7, d8, d9, d10, d11, d12]; try rfl) rfl ?_
    refine ⟨by first | rfl | (rw [hR]; rfl), ?_⟩
    have h1 := HX.out
    have h6 := HG6.out
    exact ⟨h6.os.trans h1.os, h6.output.trans h1.output, Nat.le_trans h1.size h6.size, fun k hk _ => (h6.block k (Nat.lt_of_lt_of_le hk h1.size) (by simp; omega)).trans (h1.block k hk (by simp))⟩
  · have h3 : ¬ M < 49152 := by omega
    have hN := HN2.out
    have hN0 : 0 ≤ N := by omega
    have hN1 : N < 16384 := by omega
    have hMN : M - 49152 = N := hN.symm
    clear hN HN2
    rcases (show N < 1 ∨ (1 ≤ N ∧ 2007 < N) ∨ (1 ≤ N ∧ N ≤ 2007) from by omega) with h4 | ⟨h4, h5⟩ | ⟨h4, h5⟩
    · have hR : R = 3 := by rw [HPR.out, if_neg (by omega)]; exact if_pos (.inl h4)
      clear HPR
      have hsh := (HS.out _ HX.out).c1
      have hsr := (HS.out _ HX.out).c2
      have hf : ∀ j, wX.frozen? ⟨w.heap.size, j, none⟩ = false := fun j => frozen_of_row wX w.heap.size j _ _ HZX.out
      have z0 := cell_of_row wX w.heap.size 0 _ _ _ HZX.out
      have z1 := cell_of_row wX w.heap.size 1 _ _ _ HZX.out
      have z2 := cell_of_row wX w.heap.size 2 _ _ _ HZX.out
      have z3 := cell_of_row wX w.heap.size 3 _ _ _ HZX.out
      have z4 := cell_of_row wX w.heap.size 4 _ _ _ HZX.out
      have z5 := cell_of_row wX w.heap.size 5 _ _ _ HZX.out
      have z6 := cell_of_row wX w.heap.size 6 _ _ _ HZX.out
      have z7 := cell_of_row wX w.heap.size 7 _ _ _ HZX.out
      have z8 := cell_of_row wX w.heap.size 8 _ _ _ HZX.out
      have z9 := cell_of_row wX w.heap.size 9 _ _ _ HZX.out
      have z10 := cell_of_row wX w.heap.size 10 _ _ _ HZX.out
      have z11 := cell_of_row wX w.heap.size 11 _ _ _ HZX.out
      have z12 := cell_of_row wX w.heap.size 12 _ _ _ HZX.out
      simp only [List.getElem?_toArray, List.getElem?_cons_zero, List.getElem?_cons_succ] at z0 z1 z2 z3 z4 z5 z6 z7 z8 z9 z10 z11 z12

      go_wp2_with fail
      go_region
      clear hf hsh hsr
      refine gen_world (fun W' => Gro (some w.heap.size) wX W' ∧ W'.heap[w.heap.size]? = some (.cells #[.int .i64 0, .int .u8 0, .int .u8 0, .int .u8 0, .int .u8 0, .int .u8 0, .int .u8 0, .int .u8 0, .int .u8 0, .int .u8 0, .int .u8 0, .int .u8 0, .int .u8 0] 30 (0, 0))) ⟨?_, ?_⟩ ?_
      · repeat (first | with_reducible exact Gro.refl _ _ | with_reducible refine Gro.drew ?_ | with_reducible refine Gro.setCell ?_ _ _ | with_reducible refine Gro.alloc ?_ _)
      · (try rw [heap_of_drew])
        refine Eq.trans (Below.heap_alloc _ _ _ ?_) ?_
        · simp; omega
        with_reducible refine store13 _ _ _ (.int .i64 0) (.int .u8 0) (.int .u8 0) (.int .u8 0) (.int .u8 0) (.int .u8 0) (.int .u8 0) (.int .u8 0) (.int .u8 0) (.int .u8 0) (.int .u8 0) (.int .u8 0) (.int .u8 0)  _ _ _ _ _ _ _ _ _ _ _ _ _  ?_
        with_reducible exact HZX.out
      clear z0 z1 z2 z3 z4 z5 z6 z7 z8 z9 z10 z11 z12
      rintro w6 ⟨hg6, hz6⟩
      have d0 := cell_of_row w6 w.heap.size 0 _ _ _ hz6
      have d1 := cell_of_row w6 w.heap.size 1 _ _ _ hz6
      have d2 := cell_of_row w6 w.heap.size 2 _ _ _ hz6
      have d3 := cell_of_row w6 w.heap.size 3 _ _ _ hz6
      have d4 := cell_of_row w6 w.heap.size 4 _ _ _ hz6
      have d5 := cell_of_row w6 w.heap.size 5 _ _ _ hz6
      have d6 := cell_of_row w6 w.heap.size 6 _ _ _ hz6
      have d7 := cell_of_row w6 w.heap.size 7 _ _ _ hz6
      have d8 := cell_of_row w6 w.heap.size 8 _ _ _ hz6
      have d9 := cell_of_row w6 w.heap.size 9 _ _ _ hz6
      have d10 := cell_of_row w6 w.heap.size 10 _ _ _ hz6
      have d11 := cell_of_row w6 w.heap.size 11 _ _ _ hz6
      have d12 := cell_of_row w6 w.heap.size 12 _ _ _ hz6
      simp only [List.getElem?_toArray, List.getElem?_cons_zero, List.getElem?_cons_succ] at d0 d1 d2 d3 d4 d5 d6 d7 d8 d9 d10 d11 d12
      have HG6 := Lib.hid hg6
      clear hg6 hz6
      (try go_wp2_with fail)
      (try simp only [Exit.inBlock, Exit.then])
      refine bodyPost_ret (by simp [results, Tryd.results20, go_sem, d0, d1, d2, d3, d4, d5, d6, d7, d8, d9, d10, d11, d12]; try rfl) rfl ?_
      refine ⟨by first | rfl | (rw [hR]; rfl), ?_⟩
      have h1 := HX.out
      have h6 := HG6.out
      exact ⟨h6.os.trans h1.os, h6.output.trans h1.output, Nat.le_trans h1.size h6.size, fun k hk _ => (h6.block k (Nat.lt_of_lt_of_le hk h1.size) (by simp; omega)).trans (h1.block k hk (by simp))⟩
    · have hR : R = 3 := by rw [HPR.out, if_neg (by omega)]; exact if_pos (.inr h5)
      clear HPR
      have hsh := (HS.out _ HX.out).c1
      have hsr := (HS.out _ HX.out).c2
      have hf : ∀ j, wX.frozen? ⟨w.heap.size, j, none⟩ = false := fun j => frozen_of_row wX w.heap.size j _ _ HZX.out
      have z0 := cell_of_row wX w.heap.size 0 _ _ _ HZX.out
      have z1 := cell_of_row wX w.heap.size 1 _ _ _ HZX.out
      have z2 := cell_of_row wX w.heap.size 2 _ _ _ HZX.out
      have z3 := cell_of_row wX w.heap.size 3 _ _ _ HZX.out
      have z4 := cell_of_row wX w.heap.size 4 _ _ _ HZX.out
      have z5 := cell_of_row wX w.heap.size 5 _ _ _ HZX.out
      have z6 := cell_of_row wX w.heap.size 6 _ _ _ HZX.out
      have z7 := cell_of_row wX w.heap.size 7 _ _ _ HZX.out
      have z8 := cell_of_row wX w.heap.size 8 _ _ _ HZX.out
      have z9 := cell_of_row wX w.heap.size 9 _ _ _ HZX.out
      have z10 := cell_of_row wX w.heap.size 10 _ _ _ HZX.out
      have z11 := cell_of_row wX w.heap.size 11 _ _ _ HZX.out
      have z12 := cell_of_row wX w.heap.size 12 _ _ _ HZX.out
      simp only [List.getElem?_toArray, List.getElem?_cons_zero, List.getElem?_cons_succ] at z0 z1 z2 z3 z4 z5 z6 z7 z8 z9 z10 z11 z12

      go_wp2_with fail
      go_region
      clear hf hsh hsr
      refine gen_world (fun W' => Gro (some w.heap.size) wX W' ∧ W'.heap[w.heap.size]? = some (.cells #[.int .i64 0, .int .u8 0, .int .u8 0, .int .u8 0, .int .u8 0, .int .u8 0, .int .u8 0, .int .u8 0, .int .u8 0, .int .u8 0, .int .u8 0, .int .u8 0, .int .u8 0] 30 (0, 0))) ⟨?_, ?_⟩ ?_
      · repeat (first | with_reducible exact Gro.refl _ _ | with_reducible refine Gro.drew ?_ | with_reducible refine Gro.setCell ?_ _ _ | with_reducible refine Gro.alloc ?_ _)
      · (try rw [heap_of_drew])
        refine Eq.trans (Below.heap_alloc _ _ _ ?_) ?_
        · simp; omega
        with_reducible refine store13 _ _ _ (.int .i64 0) (.int .u8 0) (.int .u8 0) (.int .u8 0) (.int .u8 0) (.int .u8 0) (.int .u8 0) (.int .u8 0) (.int .u8 0) (.int .u8 0) (.int .u8 0) (.int .u8 0) (.int .u8 0)  _ _ _ _ _ _ _ _ _ _ _ _ _  ?_
        with_reducible exact HZX.out
      clear z0 z1 z2 z3 z4 z5 z6 z7 z8 z9 z10 z11 z12
      rintro w6 ⟨hg6, hz6⟩
      have d0 := cell_of_row w6 w.heap.size 0 _ _ _ hz6
      have d1 := cell_of_row w6 w.heap.size 1 _ _ _ hz6
      have d2 := cell_of_row w6 w.heap.size 2 _ _ _ hz6
      have d3 := cell_of_row w6 w.heap.size 3 _ _ _ hz6
      have d4 := cell_of_row w6 w.heap.size 4 _ _ _ hz6
      have d5 := cell_of_row w6 w.heap.size 5 _ _ _ hz6
      have d6 := cell_of_row w6 w.heap.size 6 _ _ _ hz6
      have d7 := cell_of_row w6 w.heap.size 7 _ _ _ hz6
      have d8 := cell_of_row w6 w.heap.size 8 _ _ _ hz6
      have d9 := cell_of_row w6 w.heap.size 9 _ _ _ hz6
      have d10 := cell_of_row w6 w.heap.size 10 _ _ _ hz6
      have d11 := cell_of_row w6 w.heap.size 11 _ _ _ hz6
      have d12 := cell_of_row w6 w.heap.size 12 _ _ _ hz6
      simp only [List.getElem?_toArray, List.getElem?_cons_zero, List.getElem?_cons_succ] at d0 d1 d2 d3 d4 d5 d6 d7 d8 d9 d10 d11 d12
      have HG6 := Lib.hid hg6
      clear hg6 hz6
      (try go_wp2_with fail)
      (try simp only [Exit.inBlock, Exit.then])
      refine bodyPost_ret (by simp [results, Tryd.results20, go_sem, d0, d1, d2, d3, d4, d5, d6, d7, d8, d9, d10, d11, d12]; try rfl) rfl ?_
      refine ⟨by first | rfl | (rw [hR]; rfl), ?_⟩
      have h1 := HX.out
      have h6 := HG6.out
      exact ⟨h6.os.trans h1.os, h6.output.trans h1.output, Nat.le_trans h1.size h6.size, fun k hk _ => (h6.block k (Nat.lt_of_lt_of_le hk h1.size) (by simp; omega)).trans (h1.block k hk (by simp))⟩
    · have hR : R = 0 := by rw [HPR.out, if_neg (by omega)]; exact if_neg (by omega)
      clear HPR
      have n4 : ¬ N < 1 := by omega
      have n5 : ¬ 2007 < N := by omega
      go_wp2_with fail
      have HR := Lib.hid hR
      clear hR
      refine gen_world (fun W' => Gro none wX W' ∧ W'.heap[w.heap.size + 1]? = some (.cells [.int .i64 N, .int .u8 0, .int .u8 0, .int .u8 0, .int .u8 0, .int .u8 0, .int .u8 0, .int .u8 0, .int .u8 0, .int .u8 0, .int .u8 0, .int .u8 0, .int .u8 0].toArray 30 (0, 0))) ⟨?_, ?_⟩ ?_
      · with_reducible refine Gro.alloc ?_ _
        exact Gro.refl _ _
      · rw [← hsX]; exact heap_alloc_new _ _
      rintro W2 ⟨hg2, hb2⟩
      have HX2 := Lib.hid (And.intro (HLI.out _ (HX.out.trans hg2)) (And.intro (HX.out.trans hg2) hb2))
      have HZ2 := Lib.hid ((hg2.block w.heap.size (by omega) (by simp)).trans HZX.out)
      clear hg2 hb2 hy
      go_region_law ((refine step_copy6 rfl (.tmp 40) (.tmp 42) (by rfl) (w.heap.size + 1) 1 6 ⟨b, o + 4, none⟩ 12 (cap - 4) (by rfl) (by rfl) (by omega) _ _ HX2.out.2.2 (ad6 bs 4) (HX2.out.1.six 4 (by have := HLN.out; omega)) (by simp) ?_; intro w3 hb3 hg3))
      have HX3 := Lib.hid (And.intro (Lie.gro (w := W2.drew) (row := some (w.heap.size + 1)) HX2.out.1 hg3 (by intro a e; cases e; intro h; have h := Option.some.inj h; simp only at h; omega)) (And.intro hg3 hb3))
      have HZ3 := Lib.hid ((hg3.block w.heap.size (blk_lt HZ2.out) (by simp)).trans HZ2.out)
      clear hg3 hb3
      go_wp2_with fail
      go_region_law ((refine step_copy6 rfl (.tmp 45) (.tmp 47) (by rfl) (w.heap.size + 1) 7 6 ⟨b, o + 10, none⟩ 6 (cap - 10) (by rfl) (by rfl) (by omega) _ _ HX3.out.2.2 (ad6 bs 10) (HX3.out.1.six 10 (by have := HLN.out; omega)) (by simp [splice, adL]) ?_; intro w4 hb4 hg4))
      have hz4 := (hg4.block w.heap.size (blk_lt HZ3.out) (by simp)).trans HZ3.out
      have hb5 : w4.heap[w.heap.size + 1]? = some (.cells #[.int .i64 N, .int .u8 (ad6 bs 4).b0, .int .u8 (ad6 bs 4).b1, .int .u8 (ad6 bs 4).b2, .int .u8 (ad6 bs 4).b3, .int .u8 (ad6 bs 4).b4, .int .u8 (ad6 bs 4).b5, .int .u8 (ad6 bs 10).b0, .int .u8 (ad6 bs 10).b1, .int .u8 (ad6 bs 10).b2, .int .u8 (ad6 bs 10).b3, .int .u8 (ad6 bs 10).b4, .int .u8 (ad6 bs 10).b5] 30 (0, 0)) := hb4
      have hf : ∀ j, w4.frozen? ⟨w.heap.size, j, none⟩ = false := fun j => frozen_of_row w4 w.heap.size j _ _ hz4
      have c0 := cell_of_row w4 (w.heap.size + 1) 0 _ _ _ hb5
      have c1 := cell_of_row w4 (w.heap.size + 1) 1 _ _ _ hb5
      have c2 := cell_of_row w4 (w.heap.size + 1) 2 _ _ _ hb5
      have c3 := cell_of_row w4 (w.heap.size + 1) 3 _ _ _ hb5
      have c4 := cell_of_row w4 (w.heap.size + 1) 4 _ _ _ hb5
      have c5 := cell_of_row w4 (w.heap.size + 1) 5 _ _ _ hb5
      have c6 := cell_of_row w4 (w.heap.size + 1) 6 _ _ _ hb5
      have c7 := cell_of_row w4 (w.heap.size + 1) 7 _ _ _ hb5
      have c8 := cell_of_row w4 (w.heap.size + 1) 8 _ _ _ hb5
      have c9 := cell_of_row w4 (w.heap.size + 1) 9 _ _ _ hb5
      have c10 := cell_of_row w4 (w.heap.size + 1) 10 _ _ _ hb5
      have c11 := cell_of_row w4 (w.heap.size + 1) 11 _ _ _ hb5
      have c12 := cell_of_row w4 (w.heap.size + 1) 12 _ _ _ hb5
      simp only [List.getElem?_toArray, List.getElem?_cons_zero, List.getElem?_cons_succ] at c0 c1 c2 c3 c4 c5 c6 c7 c8 c9 c10 c11 c12
      have z0 := cell_of_row w4 w.heap.size 0 _ _ _ hz4
      have z1 := cell_of_row w4 w.heap.size 1 _ _ _ hz4
      have z2 := cell_of_row w4 w.heap.size 2 _ _ _ hz4
      have z3 := cell_of_row w4 w.heap.size 3 _ _ _ hz4
      have z4 := cell_of_row w4 w.heap.size 4 _ _ _ hz4
      have z5 := cell_of_row w4 w.heap.size 5 _ _ _ hz4
      have z6 := cell_of_row w4 w.heap.size 6 _ _ _ hz4
      have z7 := cell_of_row w4 w.heap.size 7 _ _ _ hz4
      have z8 := cell_of_row w4 w.heap.size 8 _ _ _ hz4
      have z9 := cell_of_row w4 w.heap.size 9 _ _ _ hz4
      have z10 := cell_of_row w4 w.heap.size 10 _ _ _ hz4
      have z11 := cell_of_row w4 w.heap.size 11 _ _ _ hz4
      have z12 := cell_of_row w4 w.heap.size 12 _ _ _ hz4
      simp only [List.getElem?_toArray, List.getElem?_cons_zero, List.getElem?_cons_succ] at z0 z1 z2 z3 z4 z5 z6 z7 z8 z9 z10 z11 z12
      have HF := Lib.hid (And.intro HX2.out.2.1 (And.intro HX3.out.2.1 hg4))
      have HZX := Lib.hid hz4
      clear hg4 hz4 hb4 hb5
      go_wp2_with fail
      clear c0 c1 c2 c3 c4 c5 c6 c7 c8 c9 c10 c11 c12 hf
      refine gen_world (fun W' => Gro (some w.heap.size) w4 W' ∧ W'.heap[w.heap.size]? = some (.cells #[.int .i64 N, .int .u8 (ad6 bs 4).b0, .int .u8 (ad6 bs 4).b1, .int .u8 (ad6 bs 4).b2, .int .u8 (ad6 bs 4).b3, .int .u8 (ad6 bs 4).b4, .int .u8 (ad6 bs 4).b5, .int .u8 (ad6 bs 10).b0, .int .u8 (ad6 bs 10).b1, .int .u8 (ad6 bs 10).b2, .int .u8 (ad6 bs 10).b3, .int .u8 (ad6 bs 10).b4, .int .u8 (ad6 bs 10).b5] 30 (0, 0))) ⟨?_, ?_⟩ ?_
      · repeat (first | with_reducible exact Gro.refl _ _ | with_reducible refine Gro.drew ?_ | with_reducible refine Gro.setCell ?_ _ _ | with_reducible refine Gro.alloc ?_ _)
      · (try rw [heap_of_drew])
        with_reducible refine store13 _ _ _ (.int .i64 0) (.int .u8 0) (.int .u8 0) (.int .u8 0) (.int .u8 0) (.int .u8 0) (.int .u8 0) (.int .u8 0) (.int .u8 0) (.int .u8 0) (.int .u8 0) (.int .u8 0) (.int .u8 0)  _ _ _ _ _ _ _ _ _ _ _ _ _  ?_
        with_reducible exact HZX.out
      clear z0 z1 z2 z3 z4 z5 z6 z7 z8 z9 z10 z11 z12
      rintro w6 ⟨hg6, hz6⟩
      have d0 := cell_of_row w6 w.heap.size 0 _ _ _ hz6
      have d1 := cell_of_row w6 w.heap.size 1 _ _ _ hz6
      have d2 := cell_of_row w6 w.heap.size 2 _ _ _ hz6
      have d3 := cell_of_row w6 w.heap.size 3 _ _ _ hz6
      have d4 := cell_of_row w6 w.heap.size 4 _ _ _ hz6
      have d5 := cell_of_row w6 w.heap.size 5 _ _ _ hz6
      have d6 := cell_of_row w6 w.heap.size 6 _ _ _ hz6
      have d7 := cell_of_row w6 w.heap.size 7 _ _ _ hz6
      have d8 := cell_of_row w6 w.heap.size 8 _ _ _ hz6
      have d9 := cell_of_row w6 w.heap.size 9 _ _ _ hz6
      have d10 := cell_of_row w6 w.heap.size 10 _ _ _ hz6
      have d11 := cell_of_row w6 w.heap.size 11 _ _ _ hz6
      have d12 := cell_of_row w6 w.heap.size 12 _ _ _ hz6
      simp only [List.getElem?_toArray, List.getElem?_cons_zero, List.getElem?_cons_succ] at d0 d1 d2 d3 d4 d5 d6 d7 d8 d9 d10 d11 d12
      have HG6 := Lib.hid hg6
      clear hg6 hz6
      (try go_wp2_with fail)
      (try simp only [Exit.inBlock, Exit.then])
      refine bodyPost_ret (by simp [results, Tryd.results20, go_sem, d0, d1, d2, d3, d4, d5, d6, d7, d8, d9, d10, d11, d12]; try rfl) rfl ?_
      refine ⟨by first | rfl | (rw [HR.out]; rfl), ?_⟩
      have h1 := HF.out
      have h6 := HG6.out
      refine ⟨h6.os.trans (h1.2.2.os.trans (h1.2.1.os.trans h1.1.os)), h6.output.trans (h1.2.2.output.trans (h1.2.1.output.trans h1.1.output)), Nat.le_trans h1.1.size (Nat.le_trans h1.2.1.size (Nat.le_trans h1.2.2.size h6.size)), fun k hk _ => ?_⟩
      have k1 := h1.1.block k hk (by simp)
      have s1 := h1.1.size
      have s2 : W2.heap.size ≤ w3.heap.size := h1.2.1.size
      have s3 : w3.heap.size ≤ w4.heap.size := h1.2.2.size
      have k2 : w3.heap[k]? = W2.heap[k]? := h1.2.1.block k (Nat.lt_of_lt_of_le hk s1) (by simp; omega)
      have k3 : w4.heap[k]? = w3.heap[k]? := h1.2.2.block k (Nat.lt_of_lt_of_le hk (Nat.le_trans s1 s2)) (by simp; omega)
      exact (h6.block k (Nat.lt_of_lt_of_le hk (Nat.le_trans s1 (Nat.le_trans s2 s3))) (by simp; omega)).trans (k3.trans (k2.trans k1))
end Go.Proofs.YtadcpoglkmklhaaDoor
