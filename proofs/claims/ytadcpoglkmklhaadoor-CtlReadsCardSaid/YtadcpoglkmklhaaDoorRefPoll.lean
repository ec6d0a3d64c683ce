/-
  THE DOCUMENT's READING OF CHAPTER 4: ReadPoll, out of ANY bytes. Conditions: the bytes lie where the slice says ('Lie').
-/
import Derived.Test.YtadcpoglkmklhaaDoorCtlRefR
import Derived.Test.YtadcpoglkmklhaaDoorCtlRef
import Derived.Test.YtadcpoglkmklhaaDoorCtlB
import Derived.Test.YtadcpoglkmklhaaDoorCtlC
import Derived.Test.YtadcpoglkmklhaaDoorCtlP
import Derived.Test.YtadcpoglkmklhaaDoorCalm
namespace Go.Proofs.YtadcpoglkmklhaaDoor
open Go.RowKit

set_option maxHeartbeats 4000000 in
set_option maxRecDepth 100000 in
theorem refReadPoll_any (b o cap : Nat) (bs : List Int) (w : World) (hcap : bs.length ≤ cap) (h : Lie w (some ⟨b, o, none⟩) bs) (hb : Bytes bs) (hr : longR bs 164 16 = 0) :
    Calls Tryd.prog 24 #[.slice (some ⟨b, o, none⟩) bs.length cap] w fun e w' => e = .returned (.tuple #[if pollR bs = 0 then pollV (num2 bs 2 - 49152) (ad6 bs 4) (ad6 bs 10) else pollV 0 adZ adZ, .int .i64 (codeOf (pollR bs))]) ∧ Gro none w w' := by
  have HL := Lib.hid (fun w' (k : Gro none w w') => rkind_any (some ⟨b, o, none⟩) cap bs 164 16 w' (by decide) (h.gro k (by simp)) (by decide))
  rw [hr] at HL
  obtain ⟨hlen, -⟩ := longR_zero hr
  have HBS := Lib.hid (fun w' (k : Gro none w w') => (h.gro k (by simp) : Lie w' (some ⟨b, o, none⟩) bs))
  have HSIX : Hid (∀ w', Gro none w w' → ∀ i, i + 6 ≤ 16 → ∀ n c, 6 ≤ n → Calls Tryd.prog 42 #[.slice (some ⟨b, o + i, none⟩) n c] w' fun e w'' => e = .returned (adV (ad6 bs i)) ∧ Gro none w' w'') := fun w' k i hi n c hn => rsix_any b (o + i) n c (ad6 bs i) w' hn ((h.gro k (by simp)).six i (by omega))
  have HNUM : Hid (∀ w', Gro none w w' → ∀ i, i + 2 ≤ 16 → ∀ n c, 2 ≤ n → Calls Tryd.prog 43 #[.slice (some ⟨b, o + i, none⟩) n c] w' fun e w'' => e = .returned (.int .i64 (num2 bs i)) ∧ Gro none w' w'') := fun w' k i hi n c hn => (rnum_at2 b (o + i) n c (bs.getD i 0) (bs.getD (i + 1) 0) w' hn
    (by obtain ⟨b', o', e, hc⟩ := h.gro k (by simp) i (by omega); cases e; exact hc) (by obtain ⟨b', o', e, hc⟩ := h.gro k (by simp) (i + 1) (by omega); cases e; exact hc) (hb i) (hb (i + 1))).mono fun e w'' ⟨he, m, hm⟩ => ⟨he, hm ▸ (Gro.refl _ _).drewN m⟩
  have HS4 : Hid (∀ w', Gro none w w' → Calls Tryd.prog 42 #[.slice (some ⟨b, o + 4, none⟩) 12 (cap - 4)] w' fun e w'' => e = .returned (adV (ad6 bs 4)) ∧ Gro none w' w'') := fun w' k => HSIX.out w' k 4 (by decide) _ _ (by decide)
  have HS10 : Hid (∀ w', Gro none w w' → Calls Tryd.prog 42 #[.slice (some ⟨b, o + 10, none⟩) 6 (cap - 10)] w' fun e w'' => e = .returned (adV (ad6 bs 10)) ∧ Gro none w' w'') := fun w' k => HSIX.out w' k 10 (by decide) _ _ (by decide)
  have HN2 : Hid (∀ w', Gro none w w' → Calls Tryd.prog 43 #[.slice (some ⟨b, o + 2, none⟩) 14 (cap - 2)] w' fun e w'' => e = .returned (.int .i64 (num2 bs 2)) ∧ Gro none w' w'') := fun w' k => HNUM.out w' k 2 (by decide) _ _ (by decide)
  have HY : Hid (∀ w', Gro none w w' → w'.cell? ⟨b, o + 1, none⟩ = some (.int .u8 (bs.getD 1 0))) := fun w' g => by
    obtain ⟨b', o', e, hc⟩ := (h.gro g (by simp)) 1 (by omega)
    cases e; exact hc
  obtain ⟨p0, p1⟩ : 0 ≤ num2 bs 2 ∧ num2 bs 2 < 65536 := by have := hb 2; have := hb (2 + 1); unfold num2; omega
  have hPR : pollR bs = if bs.getD 1 0 ≠ 0 ∨ num2 bs 2 < 49152 then 2 else if num2 bs 2 - 49152 < 1 ∨ 2007 < num2 bs 2 - 49152 then 3 else 0 := rfl
  have HPR := Lib.hid hPR
  generalize pollR bs = R at *
  have hy01 := hb 1
  generalize num2 bs 2 = M at *
  generalize bs.getD 1 0 = y at *
  obtain ⟨N, hN⟩ : ∃ N, N = M - 49152 := ⟨_, rfl⟩
  rw [← hN] at HPR ⊢
  have HNN := Lib.hid hN
  clear hN hPR
  generalize ad6 bs 4 = to at *
  generalize ad6 bs 10 = fr at *
  obtain ⟨t0, t1, t2, t3, t4, t5⟩ := to
  obtain ⟨f0, f1, f2, f3, f4, f5⟩ := fr
  rw [hlen] at HL hcap ⊢
  have i16 : (16 : Int) ≤ (cap : Int) := by omega
  have j16 : 16 ≤ cap := hcap
  have n2 : ¬ cap = 2 := by omega
  have n4 : ¬ cap = 4 := by omega
  have n10 : ¬ cap = 10 := by omega
  clear hcap hr hlen h hb HSIX HNUM HBS
  unfold pollV adZ
  unfold adV at HS4 HS10
  simp only at HS4 HS10 ⊢
  go_enter Tryd.func24, Tryd.ntmps24
  go_wp2_with fail
  refine (HL.out _ ((Gro.refl _ _).alloc _)).mono ?_
  rintro e w' ⟨rfl, rfl⟩
  simp only [show codeOf 0 = 0 from rfl]
  go_wp2_with fail
  have hg1 : Gro none w (w.alloc (.cells #[.int .i64 0, .int .u8 0, .int .u8 0, .int .u8 0, .int .u8 0, .int .u8 0, .int .u8 0, .int .u8 0, .int .u8 0, .int .u8 0, .int .u8 0, .int .u8 0, .int .u8 0] 30)) := (Gro.refl _ _).alloc _
  have hz : ∀ w', Gro none (w.alloc (.cells #[.int .i64 0, .int .u8 0, .int .u8 0, .int .u8 0, .int .u8 0, .int .u8 0, .int .u8 0, .int .u8 0, .int .u8 0, .int .u8 0, .int .u8 0, .int .u8 0, .int .u8 0] 30)) w' → w'.heap[w.heap.size]? = some (.cells #[.int .i64 0, .int .u8 0, .int .u8 0, .int .u8 0, .int .u8 0, .int .u8 0, .int .u8 0, .int .u8 0, .int .u8 0, .int .u8 0, .int .u8 0, .int .u8 0, .int .u8 0] 30 (0, 0)) := fun w' k => (k.block w.heap.size (by simp) (by simp)).trans (heap_alloc_new w (.cells #[.int .i64 0, .int .u8 0, .int .u8 0, .int .u8 0, .int .u8 0, .int .u8 0, .int .u8 0, .int .u8 0, .int .u8 0, .int .u8 0, .int .u8 0, .int .u8 0, .int .u8 0] 30))
  have hws : w.heap.size < (w.alloc (.cells #[.int .i64 0, .int .u8 0, .int .u8 0, .int .u8 0, .int .u8 0, .int .u8 0, .int .u8 0, .int .u8 0, .int .u8 0, .int .u8 0, .int .u8 0, .int .u8 0, .int .u8 0] 30)).heap.size := by simp
  generalize w.alloc (.cells #[.int .i64 0, .int .u8 0, .int .u8 0, .int .u8 0, .int .u8 0, .int .u8 0, .int .u8 0, .int .u8 0, .int .u8 0, .int .u8 0, .int .u8 0, .int .u8 0, .int .u8 0] 30) = w1 at *
  have HG1 := Lib.hid hg1
  have HZ := Lib.hid hz
  clear hg1 hz HL
  refine (HN2.out _ HG1.out).mono ?_
  rintro e w4 ⟨rfl, hg4⟩
  have HGX := Lib.hid hg4
  have hy := HY.out _ (HG1.out.trans hg4)
  clear hg4 HN2 HY
  rcases (show (¬ y = 0) ∨ (y = 0 ∧ M < 49152) ∨ (y = 0 ∧ 49152 ≤ M) from by omega) with h1 | ⟨rfl, h2⟩ | ⟨rfl, h2⟩
  · have hR : R = 2 := by rw [HPR.out]; exact if_pos (.inl h1)
    have h1' : (y == 0) = false := by simpa using h1
    have h1'' : (y != 0) = true := by simpa using h1
    clear HPR
    have hzX := HZ.out _ HGX.out
    have hf : ∀ j, w4.frozen? ⟨w.heap.size, j, none⟩ = false := fun j => frozen_of_row w4 w.heap.size j _ _ hzX
    have HZX := Lib.hid hzX
    have z0 := cell_of_row w4 w.heap.size 0 _ _ _ hzX
    have z1 := cell_of_row w4 w.heap.size 1 _ _ _ hzX
    have z2 := cell_of_row w4 w.heap.size 2 _ _ _ hzX
    have z3 := cell_of_row w4 w.heap.size 3 _ _ _ hzX
    have z4 := cell_of_row w4 w.heap.size 4 _ _ _ hzX
    have z5 := cell_of_row w4 w.heap.size 5 _ _ _ hzX
    have z6 := cell_of_row w4 w.heap.size 6 _ _ _ hzX
    have z7 := cell_of_row w4 w.heap.size 7 _ _ _ hzX
    have z8 := cell_of_row w4 w.heap.size 8 _ _ _ hzX
    have z9 := cell_of_row w4 w.heap.size 9 _ _ _ hzX
    have z10 := cell_of_row w4 w.heap.size 10 _ _ _ hzX
    have z11 := cell_of_row w4 w.heap.size 11 _ _ _ hzX
    have z12 := cell_of_row w4 w.heap.size 12 _ _ _ hzX
    simp only [List.getElem?_toArray, List.getElem?_cons_zero, List.getElem?_cons_succ] at z0 z1 z2 z3 z4 z5 z6 z7 z8 z9 z10 z11 z12
    clear hzX
    go_wp2_with fail
    clear hf
    refine gen_world (fun W' => Gro (some w.heap.size) w4 W' ∧ W'.heap[w.heap.size]? = some (.cells #[.int .i64 0, .int .u8 0, .int .u8 0, .int .u8 0, .int .u8 0, .int .u8 0, .int .u8 0, .int .u8 0, .int .u8 0, .int .u8 0, .int .u8 0, .int .u8 0, .int .u8 0] 30 (0, 0))) ⟨?_, ?_⟩ ?_
    · repeat (first | with_reducible exact Gro.refl _ _ | with_reducible refine Gro.drew ?_ | with_reducible refine Gro.setCell ?_ _ _)
    · (try rw [heap_of_drew])
      with_reducible refine store13 _ _ _ (.int .i64 0) (.int .u8 0) (.int .u8 0) (.int .u8 0) (.int .u8 0) (.int .u8 0) (.int .u8 0) (.int .u8 0) (.int .u8 0) (.int .u8 0) (.int .u8 0) (.int .u8 0) (.int .u8 0) _ _ _ _ _ _ _ _ _ _ _ _ _ HZX.out
    clear z0 z1 z2 z3 z4 z5 z6 z7 z8 z9 z10 z11 z12
    rintro w6 ⟨hg6, hz6⟩
    have d0 := cell_of_row w6 w.heap.size 0 _ _ _ hz6
    have d1 := cell_of_row w6 w.heap.size 1 _ _ _ hz6
    have d2 := cell_of_row w6 w.heap.size 2 _ _ _ hz6
    have d3 := cell_of_row w6 w.heap.size 3 _ _ _ hz6
    have d4 := cell_of_row w6 w.heap.size 4 _ _ _ hz6
    have d5 := cell_of_row w6 w.heap.size 5 _ _ _ hz6
    have d6 := cell_of_row w6 w.heap.size 6 _ _ _ hz6
    have d7 := cell_of_row w6 w.heap.size 7 _ _ _ hz6
    have d8 := cell_of_row w6 w.heap.size 8 _ _ _ hz6
    have d9 := cell_of_row w6 w.heap.size 9 _ _ _ hz6
    have d10 := cell_of_row w6 w.heap.size 10 _ _ _ hz6
    have d11 := cell_of_row w6 w.heap.size 11 _ _ _ hz6
    have d12 := cell_of_row w6 w.heap.size 12 _ _ _ hz6
    simp only [List.getElem?_toArray, List.getElem?_cons_zero, List.getElem?_cons_succ] at d0 d1 d2 d3 d4 d5 d6 d7 d8 d9 d10 d11 d12
    have HG6 := Lib.hid hg6
    clear hg6 hz6
    (try go_wp2_with fail)
    (try simp only [Exit.inBlock, Exit.then])
    refine bodyPost_ret (by simp [results, Tryd.results24, go_sem, d0, d1, d2, d3, d4, d5, d6, d7, d8, d9, d10, d11, d12]; try rfl) rfl ?_
    refine ⟨by first | rfl | (rw [hR]; rfl), ?_⟩
    have h1 := HG1.out.trans HGX.out
    have h6 := HG6.out
    exact ⟨h6.os.trans h1.os, h6.output.trans h1.output, Nat.le_trans h1.size h6.size, fun k hk _ => (h6.block k (Nat.lt_of_lt_of_le hk h1.size) (by simp; omega)).trans (h1.block k hk (by simp))⟩
  · have hR : R = 2 := by rw [HPR.out]; exact if_pos (.inr h2)
    clear HPR
    have hzX := HZ.out _ HGX.out
    have hf : ∀ j, w4.frozen? ⟨w.heap.size, j, none⟩ = false := fun j => frozen_of_row w4 w.heap.size j _ _ hzX
    have HZX := Lib.hid hzX
    have z0 := cell_of_row w4 w.heap.size 0 _ _ _ hzX
    have z1 := cell_of_row w4 w.heap.size 1 _ _ _ hzX
    have z2 := cell_of_row w4 w.heap.size 2 _ _ _ hzX
    have z3 := cell_of_row w4 w.heap.size 3 _ _ _ hzX
    have z4 := cell_of_row w4 w.heap.size 4 _ _ _ hzX
    have z5 := cell_of_row w4 w.heap.size 5 _ _ _ hzX
    have z6 := cell_of_row w4 w.heap.size 6 _ _ _ hzX
    have z7 := cell_of_row w4 w.heap.size 7 _ _ _ hzX
    have z8 := cell_of_row w4 w.heap.size 8 _ _ _ hzX
    have z9 := cell_of_row w4 w.heap.size 9 _ _ _ hzX
    have z10 := cell_of_row w4 w.heap.size 10 _ _ _ hzX
    have z11 := cell_of_row w4 w.heap.size 11 _ _ _ hzX
    have z12 := cell_of_row w4 w.heap.size 12 _ _ _ hzX
    simp only [List.getElem?_toArray, List.getElem?_cons_zero, List.getElem?_cons_succ] at z0 z1 z2 z3 z4 z5 z6 z7 z8 z9 z10 z11 z12
    clear hzX
    go_wp2_with fail
    clear hf
    refine gen_world (fun W' => Gro (some w.heap.size) w4 W' ∧ W'.heap[w.heap.size]? = some (.cells #[.int .i64 0, .int .u8 0, .int .u8 0, .int .u8 0, .int .u8 0, .int .u8 0, .int .u8 0, .int .u8 0, .int .u8 0, .int .u8 0, .int .u8 0, .int .u8 0, .int .u8 0] 30 (0, 0))) ⟨?_, ?_⟩ ?_
    · repeat (first | with_reducible exact Gro.refl _ _ | with_reducible refine Gro.drew ?_ | with_reducible refine Gro.setCell ?_ _ _)
    · (try rw [heap_of_drew])
      with_reducible refine store13 _ _ _ (.int .i64 0) (.int .u8 0) (.int .u8 0) (.int .u8 0) (.int .u8 0) (.int .u8 0) (.int .u8 0) (.int .u8 0) (.int .u8 0) (.int .u8 0) (.int .u8 0) (.int .u8 0) (.int .u8 0) _ _ _ _ _ _ _ _ _ _ _ _ _ HZX.out
    clear z0 z1 z2 z3 z4 z5 z6 z7 z8 z9 z10 z11 z12
    rintro w6 ⟨hg6, hz6⟩
    have d0 := cell_of_row w6 w.heap.size 0 _ _ _ hz6
    have d1 := cell_of_row w6 w.heap.size 1 _ _ _ hz6
    have d2 := cell_of_row w6 w.heap.size 2 _ _ _ hz6
    have d3 := cell_of_row w6 w.heap.size 3 _ _ _ hz6
    have d4 := cell_of_row w6 w.heap.size 4 _ _ _ hz6
    have d5 := cell_of_row w6 w.heap.size 5 _ _ _ hz6
    have d6 := cell_of_row w6 w.heap.size 6 _ _ _ hz6
    have d7 := cell_of_row w6 w.heap.size 7 _ _ _ hz6
    have d8 := cell_of_row w6 w.heap.size 8 _ _ _ hz6
    have d9 := cell_of_row w6 w.heap.size 9 _ _ _ hz6
    have d10 := cell_of_row w6 w.heap.size 10 _ _ _ hz6
    have d11 := cell_of_row w6 w.heap.size 11 _ _ _ hz6
    have d12 := cell_of_row w6 w.heap.size 12 _ _ _ hz6
    simp only [List.getElem?_toArray, List.getElem?_cons_zero, List.getElem?_cons_succ] at d0 d1 d2 d3 d4 d5 d6 d7 d8 d9 d10 d11 d12
    have HG6 := Lib.hid hg6
    clear hg6 hz6
    (try go_wp2_with fail)
    (try simp only [Exit.inBlock, Exit.then])
    refine bodyPost_ret (by simp [results, Tryd.results24, go_sem, d0, d1, d2, d3, d4, d5, d6, d7, d8, d9, d10, d11, d12]; try rfl) rfl ?_
    refine ⟨by first | rfl | (rw [hR]; rfl), ?_⟩
    have h1 := HG1.out.trans HGX.out
    have h6 := HG6.out
    exact ⟨h6.os.trans h1.os, h6.output.trans h1.output, Nat.le_trans h1.size h6.size, fun k hk _ => (h6.block k (Nat.lt_of_lt_of_le hk h1.size) (by simp; omega)).trans (h1.block k hk (by simp))⟩
  · have h3 : ¬ M < 49152 := by omega
    have hN := HNN.out
    have hN0 : 0 ≤ N := by omega
    have hN1 : N < 16384 := by omega
    have hMN : M - 49152 = N := hN.symm
    have wN : IntKind.i64.wrap N = N := by simp [IntKind.wrap, IntKind.bits, IntKind.signed]; omega
    clear hN HNN
    go_wp2_with fail
    refine wp_region_S (RS w4 6 9 10 30 #[.int .i64 0, .int .u8 0, .int .u8 0, .int .u8 0, .int .u8 0, .int .u8 0, .int .u8 0, .int .u8 0, .int .u8 0, .int .u8 0, .int .u8 0, .int .u8 0, .int .u8 0] #[.int .i64 N, .int .u8 t0, .int .u8 t1, .int .u8 t2, .int .u8 t3, .int .u8 t4, .int .u8 t5, .int .u8 f0, .int .u8 f1, .int .u8 f2, .int .u8 f3, .int .u8 f4, .int .u8 f5]) (by kernel_rfl) ⟨Gro.drew (Gro.refl _ _), fun h => absurd h (by decide)⟩ ?_
    refine takeY (i := 0) (x := 25) (v := .int .i64 M) rfl (by decide) (by decide) (by decide) (by kernel_rfl) (by kernel_rfl) (by kernel_rfl) (fun _ _ _ h => h) (by intro w; go_simp) ?_
    simp only [Act.put, List.setIfInBounds_toArray, List.set_cons_zero, List.set_cons_succ]
    refine takeY (i := 1) (x := 26) (v := .int .i64 N) rfl (by decide) (by decide) (by decide) (by kernel_rfl) (by kernel_rfl) (by kernel_rfl) (fun _ _ _ h => h) (by intro w; go_simp) ?_
    simp only [Act.put, List.setIfInBounds_toArray, List.set_cons_zero, List.set_cons_succ]
    refine takeY (i := 2) (x := 27) (v := .slice (some ⟨b, o, none⟩) 16 cap) rfl (by decide) (by decide) (by decide) (by kernel_rfl) (by kernel_rfl) (by kernel_rfl) (fun _ _ _ h => h) (by intro w; go_simp) ?_
    simp only [Act.put, List.setIfInBounds_toArray, List.set_cons_zero, List.set_cons_succ]
    refine takeY (i := 3) (x := 28) (v := .slice (some ⟨b, o + 4, none⟩) 12 (cap - 4)) rfl (by decide) (by decide) (by decide) (by kernel_rfl) (by kernel_rfl) (by kernel_rfl) (fun _ _ _ h => h) (by intro w; go_simp) ?_
    simp only [Act.put, List.setIfInBounds_toArray, List.set_cons_zero, List.set_cons_succ]
    refine takeC (i := 4) (x := 29) (v := .agg #[.int .u8 t0, .int .u8 t1, .int .u8 t2, .int .u8 t3, .int .u8 t4, .int .u8 t5]) 42 #[.slice (some ⟨b, o + 4, none⟩) 12 (cap - 4)] rfl (by decide) (by decide) (by decide) (by kernel_rfl) (by kernel_rfl) (by kernel_rfl) (fun _ _ _ h => h) (by intro w; go_simp) (fun w' k => HS4.out w' (HG1.out.trans (HGX.out.trans k))) ?_
    simp only [Act.put, List.setIfInBounds_toArray, List.set_cons_zero, List.set_cons_succ]
    refine takeY (i := 5) (x := 30) (v := .slice (some ⟨b, o, none⟩) 16 cap) rfl (by decide) (by decide) (by decide) (by kernel_rfl) (by kernel_rfl) (by kernel_rfl) (fun _ _ _ h => h) (by intro w; go_simp) ?_
    simp only [Act.put, List.setIfInBounds_toArray, List.set_cons_zero, List.set_cons_succ]
    refine takeY (i := 6) (x := 31) (v := .slice (some ⟨b, o + 10, none⟩) 6 (cap - 10)) rfl (by decide) (by decide) (by decide) (by kernel_rfl) (by kernel_rfl) (by kernel_rfl) (fun _ _ _ h => h) (by intro w; go_simp) ?_
    simp only [Act.put, List.setIfInBounds_toArray, List.set_cons_zero, List.set_cons_succ]
    refine takeC (i := 7) (x := 32) (v := .agg #[.int .u8 f0, .int .u8 f1, .int .u8 f2, .int .u8 f3, .int .u8 f4, .int .u8 f5]) 42 #[.slice (some ⟨b, o + 10, none⟩) 6 (cap - 10)] rfl (by decide) (by decide) (by decide) (by kernel_rfl) (by kernel_rfl) (by kernel_rfl) (fun _ _ _ h => h) (by intro w; go_simp) (fun w' k => HS10.out w' (HG1.out.trans (HGX.out.trans k))) ?_
    simp only [Act.put, List.setIfInBounds_toArray, List.set_cons_zero, List.set_cons_succ]
    refine takeY (i := 8) (x := 33) (v := .agg #[.int .i64 N, .int .u8 t0, .int .u8 t1, .int .u8 t2, .int .u8 t3, .int .u8 t4, .int .u8 t5, .int .u8 f0, .int .u8 f1, .int .u8 f2, .int .u8 f3, .int .u8 f4, .int .u8 f5]) rfl (by decide) (by decide) (by decide) (by kernel_rfl) (by kernel_rfl) (by kernel_rfl) (fun _ _ _ h => h) (by intro w; go_simp) ?_
    simp only [Act.put, List.setIfInBounds_toArray, List.set_cons_zero, List.set_cons_succ]
    refine takeA rfl (by kernel_rfl) (by decide) (by kernel_rfl) (by simp) (by intro w; go_simp) ?_
    intro g hge
    simp only [Act.put, List.setIfInBounds_toArray, List.set_cons_zero, List.set_cons_succ]
    refine takeS (g := g) rfl (by kernel_rfl) (by decide) (by kernel_rfl) (by kernel_rfl) (by decide) rfl ?_ (by kernel_rfl) ?_
    · intro w2 hg2 hge2 hrow
      have hf : ∀ j, w2.frozen? ⟨g, j, none⟩ = false := fun j => frozen_of_row w2 g j _ _ hrow
      have z0 := cell_of_row w2 g 0 _ _ _ hrow
      have z1 := cell_of_row w2 g 1 _ _ _ hrow
      have z2 := cell_of_row w2 g 2 _ _ _ hrow
      have z3 := cell_of_row w2 g 3 _ _ _ hrow
      have z4 := cell_of_row w2 g 4 _ _ _ hrow
      have z5 := cell_of_row w2 g 5 _ _ _ hrow
      have z6 := cell_of_row w2 g 6 _ _ _ hrow
      have z7 := cell_of_row w2 g 7 _ _ _ hrow
      have z8 := cell_of_row w2 g 8 _ _ _ hrow
      have z9 := cell_of_row w2 g 9 _ _ _ hrow
      have z10 := cell_of_row w2 g 10 _ _ _ hrow
      have z11 := cell_of_row w2 g 11 _ _ _ hrow
      have z12 := cell_of_row w2 g 12 _ _ _ hrow
      simp only [List.getElem?_toArray, List.getElem?_cons_zero, List.getElem?_cons_succ] at z0 z1 z2 z3 z4 z5 z6 z7 z8 z9 z10 z11 z12
      have HROW := Lib.hid hrow
      have HG2 := Lib.hid hg2
      clear hrow hg2
      refine ⟨_, by go_simp; rfl, ?_, ?_⟩
      · repeat (first | with_reducible exact HG2.out | with_reducible refine Gro.drew ?_ | with_reducible refine Gro.setNew ?_ hge2 _)
      · with_reducible refine store13 _ _ _ (.int .i64 0) (.int .u8 0) (.int .u8 0) (.int .u8 0) (.int .u8 0) (.int .u8 0) (.int .u8 0) (.int .u8 0) (.int .u8 0) (.int .u8 0) (.int .u8 0) (.int .u8 0) (.int .u8 0) _ _ _ _ _ _ _ _ _ _ _ _ _ HROW.out
    intro w5 hg5 hge5 hrow
    have hzX := HZ.out _ (HGX.out.trans hg5)
    have hgx := HGX.out.trans hg5
    have hgw : w.heap.size < g := by have := HGX.out.size; omega
    clear HGX hg5 hy
    obtain ⟨w4, rfl⟩ : ∃ v, v = w5 := ⟨_, rfl⟩
    have HGX := Lib.hid hgx
    have c0 := cell_of_row w4 g 0 _ _ _ hrow
    have c1 := cell_of_row w4 g 1 _ _ _ hrow
    have c2 := cell_of_row w4 g 2 _ _ _ hrow
    have c3 := cell_of_row w4 g 3 _ _ _ hrow
    have c4 := cell_of_row w4 g 4 _ _ _ hrow
    have c5 := cell_of_row w4 g 5 _ _ _ hrow
    have c6 := cell_of_row w4 g 6 _ _ _ hrow
    have c7 := cell_of_row w4 g 7 _ _ _ hrow
    have c8 := cell_of_row w4 g 8 _ _ _ hrow
    have c9 := cell_of_row w4 g 9 _ _ _ hrow
    have c10 := cell_of_row w4 g 10 _ _ _ hrow
    have c11 := cell_of_row w4 g 11 _ _ _ hrow
    have c12 := cell_of_row w4 g 12 _ _ _ hrow
    simp only [List.getElem?_toArray, List.getElem?_cons_zero, List.getElem?_cons_succ] at c0 c1 c2 c3 c4 c5 c6 c7 c8 c9 c10 c11 c12
    clear hgx hrow hzX
    rcases (show N < 1 ∨ (1 ≤ N ∧ 2007 < N) ∨ (1 ≤ N ∧ N ≤ 2007) from by omega) with h4 | ⟨h4, h5⟩ | ⟨h4, h5⟩
    · have hR : R = 3 := by rw [HPR.out, if_neg (by omega)]; exact if_pos (.inl h4)
      clear HPR
      have hzX := HZ.out _ HGX.out
      have hf : ∀ j, w4.frozen? ⟨w.heap.size, j, none⟩ = false := fun j => frozen_of_row w4 w.heap.size j _ _ hzX
      have HZX := Lib.hid hzX
      have z0 := cell_of_row w4 w.heap.size 0 _ _ _ hzX
      have z1 := cell_of_row w4 w.heap.size 1 _ _ _ hzX
      have z2 := cell_of_row w4 w.heap.size 2 _ _ _ hzX
      have z3 := cell_of_row w4 w.heap.size 3 _ _ _ hzX
      have z4 := cell_of_row w4 w.heap.size 4 _ _ _ hzX
      have z5 := cell_of_row w4 w.heap.size 5 _ _ _ hzX
      have z6 := cell_of_row w4 w.heap.size 6 _ _ _ hzX
      have z7 := cell_of_row w4 w.heap.size 7 _ _ _ hzX
      have z8 := cell_of_row w4 w.heap.size 8 _ _ _ hzX
      have z9 := cell_of_row w4 w.heap.size 9 _ _ _ hzX
      have z10 := cell_of_row w4 w.heap.size 10 _ _ _ hzX
      have z11 := cell_of_row w4 w.heap.size 11 _ _ _ hzX
      have z12 := cell_of_row w4 w.heap.size 12 _ _ _ hzX
      simp only [List.getElem?_toArray, List.getElem?_cons_zero, List.getElem?_cons_succ] at z0 z1 z2 z3 z4 z5 z6 z7 z8 z9 z10 z11 z12
      clear hzX
      go_wp2_with fail
      clear hf
      refine gen_world (fun W' => Gro (some w.heap.size) w4 W' ∧ W'.heap[w.heap.size]? = some (.cells #[.int .i64 0, .int .u8 0, .int .u8 0, .int .u8 0, .int .u8 0, .int .u8 0, .int .u8 0, .int .u8 0, .int .u8 0, .int .u8 0, .int .u8 0, .int .u8 0, .int .u8 0] 30 (0, 0))) ⟨?_, ?_⟩ ?_
      · repeat (first | with_reducible exact Gro.refl _ _ | with_reducible refine Gro.drew ?_ | with_reducible refine Gro.setCell ?_ _ _)
      · (try rw [heap_of_drew])
        with_reducible refine store13 _ _ _ (.int .i64 0) (.int .u8 0) (.int .u8 0) (.int .u8 0) (.int .u8 0) (.int .u8 0) (.int .u8 0) (.int .u8 0) (.int .u8 0) (.int .u8 0) (.int .u8 0) (.int .u8 0) (.int .u8 0) _ _ _ _ _ _ _ _ _ _ _ _ _ HZX.out
      clear z0 z1 z2 z3 z4 z5 z6 z7 z8 z9 z10 z11 z12
      rintro w6 ⟨hg6, hz6⟩
      have d0 := cell_of_row w6 w.heap.size 0 _ _ _ hz6
      have d1 := cell_of_row w6 w.heap.size 1 _ _ _ hz6
      have d2 := cell_of_row w6 w.heap.size 2 _ _ _ hz6
      have d3 := cell_of_row w6 w.heap.size 3 _ _ _ hz6
      have d4 := cell_of_row w6 w.heap.size 4 _ _ _ hz6
      have d5 := cell_of_row w6 w.heap.size 5 _ _ _ hz6
      have d6 := cell_of_row w6 w.heap.size 6 _ _ _ hz6
      have d7 := cell_of_row w6 w.heap.size 7 _ _ _ hz6
      have d8 := cell_of_row w6 w.heap.size 8 _ _ _ hz6
      have d9 := cell_of_row w6 w.heap.size 9 _ _ _ hz6
      have d10 := cell_of_row w6 w.heap.size 10 _ _ _ hz6
      have d11 := cell_of_row w6 w.heap.size 11 _ _ _ hz6
      have d12 := cell_of_row w6 w.heap.size 12 _ _ _ hz6
      simp only [List.getElem?_toArray, List.getElem?_cons_zero, List.getElem?_cons_succ] at d0 d1 d2 d3 d4 d5 d6 d7 d8 d9 d10 d11 d12
      have HG6 := Lib.hid hg6
      clear hg6 hz6
      (try go_wp2_with fail)
      (try simp only [Exit.inBlock, Exit.then])
      refine bodyPost_ret (by simp [results, Tryd.results24, go_sem, d0, d1, d2, d3, d4, d5, d6, d7, d8, d9, d10, d11, d12]; try rfl) rfl ?_
      refine ⟨by first | rfl | (rw [hR]; rfl), ?_⟩
      have h1 := HG1.out.trans HGX.out
      have h6 := HG6.out
      exact ⟨h6.os.trans h1.os, h6.output.trans h1.output, Nat.le_trans h1.size h6.size, fun k hk _ => (h6.block k (Nat.lt_of_lt_of_le hk h1.size) (by simp; omega)).trans (h1.block k hk (by simp))⟩
    · have hR : R = 3 := by rw [HPR.out, if_neg (by omega)]; exact if_pos (.inr h5)
      have h6 : ¬ N < 1 := by omega
      clear HPR
      have hzX := HZ.out _ HGX.out
      have hf : ∀ j, w4.frozen? ⟨w.heap.size, j, none⟩ = false := fun j => frozen_of_row w4 w.heap.size j _ _ hzX
      have HZX := Lib.hid hzX
      have z0 := cell_of_row w4 w.heap.size 0 _ _ _ hzX
      have z1 := cell_of_row w4 w.heap.size 1 _ _ _ hzX
      have z2 := cell_of_row w4 w.heap.size 2 _ _ _ hzX
      have z3 := cell_of_row w4 w.heap.size 3 _ _ _ hzX
      have z4 := cell_of_row w4 w.heap.size 4 _ _ _ hzX
      have z5 := cell_of_row w4 w.heap.size 5 _ _ _ hzX
      have z6 := cell_of_row w4 w.heap.size 6 _ _ _ hzX
      have z7 := cell_of_row w4 w.heap.size 7 _ _ _ hzX
      have z8 := cell_of_row w4 w.heap.size 8 _ _ _ hzX
      have z9 := cell_of_row w4 w.heap.size 9 _ _ _ hzX
      have z10 := cell_of_row w4 w.heap.size 10 _ _ _ hzX
      have z11 := cell_of_row w4 w.heap.size 11 _ _ _ hzX
      have z12 := cell_of_row w4 w.heap.size 12 _ _ _ hzX
      simp only [List.getElem?_toArray, List.getElem?_cons_zero, List.getElem?_cons_succ] at z0 z1 z2 z3 z4 z5 z6 z7 z8 z9 z10 z11 z12
      clear hzX
      go_wp2_with fail
      clear hf
      refine gen_world (fun W' => Gro (some w.heap.size) w4 W' ∧ W'.heap[w.heap.size]? = some (.cells #[.int .i64 0, .int .u8 0, .int .u8 0, .int .u8 0, .int .u8 0, .int .u8 0, .int .u8 0, .int .u8 0, .int .u8 0, .int .u8 0, .int .u8 0, .int .u8 0, .int .u8 0] 30 (0, 0))) ⟨?_, ?_⟩ ?_
      · repeat (first | with_reducible exact Gro.refl _ _ | with_reducible refine Gro.drew ?_ | with_reducible refine Gro.setCell ?_ _ _)
      · (try rw [heap_of_drew])
        with_reducible refine store13 _ _ _ (.int .i64 0) (.int .u8 0) (.int .u8 0) (.int .u8 0) (.int .u8 0) (.int .u8 0) (.int .u8 0) (.int .u8 0) (.int .u8 0) (.int .u8 0) (.int .u8 0) (.int .u8 0) (.int .u8 0) _ _ _ _ _ _ _ _ _ _ _ _ _ HZX.out
      clear z0 z1 z2 z3 z4 z5 z6 z7 z8 z9 z10 z11 z12
      rintro w6 ⟨hg6, hz6⟩
      have d0 := cell_of_row w6 w.heap.size 0 _ _ _ hz6
      have d1 := cell_of_row w6 w.heap.size 1 _ _ _ hz6
      have d2 := cell_of_row w6 w.heap.size 2 _ _ _ hz6
      have d3 := cell_of_row w6 w.heap.size 3 _ _ _ hz6
      have d4 := cell_of_row w6 w.heap.size 4 _ _ _ hz6
      have d5 := cell_of_row w6 w.heap.size 5 _ _ _ hz6
      have d6 := cell_of_row w6 w.heap.size 6 _ _ _ hz6
      have d7 := cell_of_row w6 w.heap.size 7 _ _ _ hz6
      have d8 := cell_of_row w6 w.heap.size 8 _ _ _ hz6
      have d9 := cell_of_row w6 w.heap.size 9 _ _ _ hz6
      have d10 := cell_of_row w6 w.heap.size 10 _ _ _ hz6
      have d11 := cell_of_row w6 w.heap.size 11 _ _ _ hz6
      have d12 := cell_of_row w6 w.heap.size 12 _ _ _ hz6
      simp only [List.getElem?_toArray, List.getElem?_cons_zero, List.getElem?_cons_succ] at d0 d1 d2 d3 d4 d5 d6 d7 d8 d9 d10 d11 d12
      have HG6 := Lib.hid hg6
      clear hg6 hz6
      (try go_wp2_with fail)
      (try simp only [Exit.inBlock, Exit.then])
      refine bodyPost_ret (by simp [results, Tryd.results24, go_sem, d0, d1, d2, d3, d4, d5, d6, d7, d8, d9, d10, d11, d12]; try rfl) rfl ?_
      refine ⟨by first | rfl | (rw [hR]; rfl), ?_⟩
      have h1 := HG1.out.trans HGX.out
      have h6 := HG6.out
      exact ⟨h6.os.trans h1.os, h6.output.trans h1.output, Nat.le_trans h1.size h6.size, fun k hk _ => (h6.block k (Nat.lt_of_lt_of_le hk h1.size) (by simp; omega)).trans (h1.block k hk (by simp))⟩
    · have hR : R = 0 := by rw [HPR.out, if_neg (by omega)]; exact if_neg (by omega)
      have h6 : ¬ N < 1 := by omega
      have h7 : ¬ 2007 < N := by omega
      clear HPR
      have hzX := HZ.out _ HGX.out
      have hf : ∀ j, w4.frozen? ⟨w.heap.size, j, none⟩ = false := fun j => frozen_of_row w4 w.heap.size j _ _ hzX
      have HZX := Lib.hid hzX
      have z0 := cell_of_row w4 w.heap.size 0 _ _ _ hzX
      have z1 := cell_of_row w4 w.heap.size 1 _ _ _ hzX
      have z2 := cell_of_row w4 w.heap.size 2 _ _ _ hzX
      have z3 := cell_of_row w4 w.heap.size 3 _ _ _ hzX
      have z4 := cell_of_row w4 w.heap.size 4 _ _ _ hzX
      have z5 := cell_of_row w4 w.heap.size 5 _ _ _ hzX
      have z6 := cell_of_row w4 w.heap.size 6 _ _ _ hzX
      have z7 := cell_of_row w4 w.heap.size 7 _ _ _ hzX
      have z8 := cell_of_row w4 w.heap.size 8 _ _ _ hzX
      have z9 := cell_of_row w4 w.heap.size 9 _ _ _ hzX
      have z10 := cell_of_row w4 w.heap.size 10 _ _ _ hzX
      have z11 := cell_of_row w4 w.heap.size 11 _ _ _ hzX
      have z12 := cell_of_row w4 w.heap.size 12 _ _ _ hzX
      simp only [List.getElem?_toArray, List.getElem?_cons_zero, List.getElem?_cons_succ] at z0 z1 z2 z3 z4 z5 z6 z7 z8 z9 z10 z11 z12
      clear hzX
      go_wp2_with fail
      clear hf c0 c1 c2 c3 c4 c5 c6 c7 c8 c9 c10 c11 c12
      refine gen_world (fun W' => Gro (some w.heap.size) w4 W' ∧ W'.heap[w.heap.size]? = some (.cells #[.int .i64 N, .int .u8 t0, .int .u8 t1, .int .u8 t2, .int .u8 t3, .int .u8 t4, .int .u8 t5, .int .u8 f0, .int .u8 f1, .int .u8 f2, .int .u8 f3, .int .u8 f4, .int .u8 f5] 30 (0, 0))) ⟨?_, ?_⟩ ?_
      · repeat (first | with_reducible exact Gro.refl _ _ | with_reducible refine Gro.drew ?_ | with_reducible refine Gro.setCell ?_ _ _)
      · (try rw [heap_of_drew])
        with_reducible refine store13 _ _ _ (.int .i64 0) (.int .u8 0) (.int .u8 0) (.int .u8 0) (.int .u8 0) (.int .u8 0) (.int .u8 0) (.int .u8 0) (.int .u8 0) (.int .u8 0) (.int .u8 0) (.int .u8 0) (.int .u8 0) _ _ _ _ _ _ _ _ _ _ _ _ _ HZX.out
      clear z0 z1 z2 z3 z4 z5 z6 z7 z8 z9 z10 z11 z12
      rintro w6 ⟨hg6, hz6⟩
      have d0 := cell_of_row w6 w.heap.size 0 _ _ _ hz6
      have d1 := cell_of_row w6 w.heap.size 1 _ _ _ hz6
      have d2 := cell_of_row w6 w.heap.size 2 _ _ _ hz6
      have d3 := cell_of_row w6 w.heap.size 3 _ _ _ hz6
      have d4 := cell_of_row w6 w.heap.size 4 _ _ _ hz6
      have d5 := cell_of_row w6 w.heap.size 5 _ _ _ hz6
      have d6 := cell_of_row w6 w.heap.size 6 _ _ _ hz6
      have d7 := cell_of_row w6 w.heap.size 7 _ _ _ hz6
      have d8 := cell_of_row w6 w.heap.size 8 _ _ _ hz6
      have d9 := cell_of_row w6 w.heap.size 9 _ _ _ hz6
      have d10 := cell_of_row w6 w.heap.size 10 _ _ _ hz6
      have d11 := cell_of_row w6 w.heap.size 11 _ _ _ hz6
      have d12 := cell_of_row w6 w.heap.size 12 _ _ _ hz6
      simp only [List.getElem?_toArray, List.getElem?_cons_zero, List.getElem?_cons_succ] at d0 d1 d2 d3 d4 d5 d6 d7 d8 d9 d10 d11 d12
      have HG6 := Lib.hid hg6
      clear hg6 hz6
      (try go_wp2_with fail)
      (try simp only [Exit.inBlock, Exit.then])
      refine bodyPost_ret (by simp [results, Tryd.results24, go_sem, d0, d1, d2, d3, d4, d5, d6, d7, d8, d9, d10, d11, d12]; try rfl) rfl ?_
      refine ⟨by first | rfl | (rw [hR]; rfl), ?_⟩
      have h1 := HG1.out.trans HGX.out
      have h6 := HG6.out
      exact ⟨h6.os.trans h1.os, h6.output.trans h1.output, Nat.le_trans h1.size h6.size, fun k hk _ => (h6.block k (Nat.lt_of_lt_of_le hk h1.size) (by simp; omega)).trans (h1.block k hk (by simp))⟩
end Go.Proofs.YtadcpoglkmklhaaDoor
