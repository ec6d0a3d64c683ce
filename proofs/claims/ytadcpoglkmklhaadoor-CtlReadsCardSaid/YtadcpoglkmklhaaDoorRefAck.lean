/-
  THE DOCUMENT's READING OF CHAPTER 4: ReadAck, out of ANY bytes. Conditions: the bytes lie where the slice says ('Lie').
-/
import Derived.Test.YtadcpoglkmklhaaDoorCtlRefR
import Derived.Test.YtadcpoglkmklhaaDoorCtlRef
import Derived.Test.YtadcpoglkmklhaaDoorCtlB
import Derived.Test.YtadcpoglkmklhaaDoorCtlC
import Derived.Test.YtadcpoglkmklhaaDoorCtlP
import Derived.Test.YtadcpoglkmklhaaDoorCalm
namespace Go.Proofs.YtadcpoglkmklhaaDoor
open Go.RowKit

set_option maxHeartbeats 4000000 in
set_option maxRecDepth 100000 in
theorem refReadAck_any (b o cap : Nat) (bs : List Int) (w : World) (hcap : bs.length ≤ cap) (h : Lie w (some ⟨b, o, none⟩) bs) (hb : Bytes bs) (hr : longR bs 148 28 = 0) :
    Calls Tryd.prog 23 #[.slice (some ⟨b, o, none⟩) bs.length cap] w fun e w' => (isAck bs → e = .returned (.tuple #[ackV (ad6 bs 4) (ad6 bs 10) (bTid bs) (bSeq bs) (mapV bs 8), .int .i64 0])) ∧ (¬ isAck bs → e = .returned (.tuple #[ackV adZ adZ 0 0 0, .int .i64 102])) ∧ Gro none w w' := by
  have HL := Lib.hid (fun w' (k : Gro none w w') => rkind_any (some ⟨b, o, none⟩) cap bs 148 28 w' (by decide) (h.gro k (by simp)) (by decide))
  rw [hr] at HL
  obtain ⟨hlen, -⟩ := longR_zero hr
  have HBS := Lib.hid (fun w' (k : Gro none w w') => (h.gro k (by simp) : Lie w' (some ⟨b, o, none⟩) bs))
  have HSIX : Hid (∀ w', Gro none w w' → ∀ i, i + 6 ≤ 28 → ∀ n c, 6 ≤ n → Calls Tryd.prog 42 #[.slice (some ⟨b, o + i, none⟩) n c] w' fun e w'' => e = .returned (adV (ad6 bs i)) ∧ Gro none w' w'') := fun w' k i hi n c hn => rsix_any b (o + i) n c (ad6 bs i) w' hn ((h.gro k (by simp)).six i (by omega))
  have HNUM : Hid (∀ w', Gro none w w' → ∀ i, i + 2 ≤ 28 → ∀ n c, 2 ≤ n → Calls Tryd.prog 43 #[.slice (some ⟨b, o + i, none⟩) n c] w' fun e w'' => e = .returned (.int .i64 (num2 bs i)) ∧ Gro none w' w'') := fun w' k i hi n c hn => (rnum_at2 b (o + i) n c (bs.getD i 0) (bs.getD (i + 1) 0) w' hn
    (by obtain ⟨b', o', e, hc⟩ := h.gro k (by simp) i (by omega); cases e; exact hc) (by obtain ⟨b', o', e, hc⟩ := h.gro k (by simp) (i + 1) (by omega); cases e; exact hc) (hb i) (hb (i + 1))).mono fun e w'' ⟨he, m, hm⟩ => ⟨he, hm ▸ (Gro.refl _ _).drewN m⟩
  have HS4 : Hid (∀ w', Gro none w w' → Calls Tryd.prog 42 #[.slice (some ⟨b, o + 4, none⟩) 24 (cap - 4)] w' fun e w'' => e = .returned (adV (ad6 bs 4)) ∧ Gro none w' w'') := fun w' k => HSIX.out w' k 4 (by decide) _ _ (by decide)
  have HS10 : Hid (∀ w', Gro none w w' → Calls Tryd.prog 42 #[.slice (some ⟨b, o + 10, none⟩) 18 (cap - 10)] w' fun e w'' => e = .returned (adV (ad6 bs 10)) ∧ Gro none w' w'') := fun w' k => HSIX.out w' k 10 (by decide) _ _ (by decide)
  have HN16 : Hid (∀ w', Gro none w w' → Calls Tryd.prog 43 #[.slice (some ⟨b, o + 16, none⟩) 12 (cap - 16)] w' fun e w'' => e = .returned (.int .i64 (num2 bs 16)) ∧ Gro none w' w'') := fun w' k => HNUM.out w' k 16 (by decide) _ _ (by decide)
  have HN18 : Hid (∀ w', Gro none w w' → Calls Tryd.prog 43 #[.slice (some ⟨b, o + 18, none⟩) 10 (cap - 18)] w' fun e w'' => e = .returned (.int .i64 (num2 bs 18)) ∧ Gro none w' w'') := fun w' k => HNUM.out w' k 18 (by decide) _ _ (by decide)
  obtain ⟨p0, p1⟩ : 0 ≤ num2 bs 16 ∧ num2 bs 16 < 65536 := by have := hb 16; have := hb (16 + 1); unfold num2; omega
  have e16 : (num2 bs 16).tdiv 4096 = num2 bs 16 / 4096 := Int.tdiv_eq_ediv_of_nonneg p0
  have f16 : 0 ≤ num2 bs 16 / 4096 := Int.ediv_nonneg p0 (by decide)
  have g16 : num2 bs 16 / 4096 < 16 := by omega
  obtain ⟨q0, q1⟩ : 0 ≤ num2 bs 18 ∧ num2 bs 18 < 65536 := by have := hb 18; have := hb (18 + 1); unfold num2; omega
  have e18 : (num2 bs 18).tdiv 16 = num2 bs 18 / 16 := Int.tdiv_eq_ediv_of_nonneg q0
  have f18 : 0 ≤ num2 bs 18 / 16 := Int.ediv_nonneg q0 (by decide)
  have g18 : num2 bs 18 / 16 < 4096 := by omega
  have hd : (isAck bs ↔ okB (bTid bs) (bSeq bs) ∧ ackL (ad6 bs 4) (ad6 bs 10) (bTid bs) (bSeq bs) (mapV bs 8) = bs) := Iff.rfl
  have HD := Lib.hid hd
  clear hd
  generalize isAck bs = P at *
  have hT : bTid bs = num2 bs 16 / 4096 := rfl
  have hS : bSeq bs = num2 bs 18 / 16 := rfl
  rw [← hT] at e16 f16 g16
  rw [← hS] at e18 f18 g18
  clear hT hS
  generalize bTid bs = T at *
  generalize bSeq bs = S at *
  have w16 : IntKind.i64.wrap T = T := by simp [IntKind.wrap, IntKind.bits, IntKind.signed]; omega
  have w18 : IntKind.i64.wrap S = S := by simp [IntKind.wrap, IntKind.bits, IntKind.signed]; omega
  generalize num2 bs 16 = m16 at *
  generalize num2 bs 18 = m18 at *
  have HTO := Lib.hid (hb.ad6 4)
  have HFR := Lib.hid (hb.ad6 10)
  generalize ad6 bs 4 = to at *
  generalize ad6 bs 10 = fr at *
  obtain ⟨t0, t1, t2, t3, t4, t5⟩ := to
  obtain ⟨f0, f1, f2, f3, f4, f5⟩ := fr
  rw [hlen] at HL hcap ⊢
  have i20 : (28 : Int) ≤ (cap : Int) := by omega
  have j20 : 28 ≤ cap := hcap
  have n4 : ¬ cap = 4 := by omega
  have n10 : ¬ cap = 10 := by omega
  have n16 : ¬ cap = 16 := by omega
  have n18 : ¬ cap = 18 := by omega
  have HLEN := Lib.hid hlen
  have HY : Hid (∀ w', Gro none w w' → ∀ k, k < 8 → w'.cell? ⟨b, o + (20 + k), none⟩ = some (.int .u8 (bs.getD (20 + k) 0))) := fun w' g k hk => by
    obtain ⟨b', o', e, hc⟩ := (h.gro g (by simp)) (20 + k) (by omega)
    cases e; exact hc
  have HMV := Lib.hid (fun k => And.intro (mapV_le hb k) (hb (20 + k)))
  have HOR := Lib.hid (or_map hb)
  have hblt : b < w.heap.size := h.lt (by omega)
  obtain ⟨M, hM8⟩ : ∃ m, m = mapV bs 8 := ⟨_, rfl⟩
  have HM := Lib.hid (hM8 ▸ (mapV_le hb 8) : 0 ≤ M ∧ M < 2 ^ (8 * 8))
  rw [← hM8] at HD ⊢
  have HM8 := Lib.hid hM8
  clear hM8
  clear hcap hr hlen h hb HSIX HNUM
  unfold ackV adZ at *
  unfold adV at HS4 HS10
  simp only at HS4 HS10 ⊢
  go_enter Tryd.func23, Tryd.ntmps23
  go_wp2_with fail
  refine (HL.out _ ((Gro.refl _ _).alloc _)).mono ?_
  rintro e w' ⟨rfl, rfl⟩
  simp only [show codeOf 0 = 0 from rfl]
  go_wp2_with fail
  have hg1 : Gro none w (w.alloc (.cells #[.int .u8 0, .int .u8 0, .int .u8 0, .int .u8 0, .int .u8 0, .int .u8 0, .int .u8 0, .int .u8 0, .int .u8 0, .int .u8 0, .int .u8 0, .int .u8 0, .int .i64 0, .int .i64 0, .int .u64 0] 28)) := (Gro.refl _ _).alloc _
  have hz : ∀ w', Gro none (w.alloc (.cells #[.int .u8 0, .int .u8 0, .int .u8 0, .int .u8 0, .int .u8 0, .int .u8 0, .int .u8 0, .int .u8 0, .int .u8 0, .int .u8 0, .int .u8 0, .int .u8 0, .int .i64 0, .int .i64 0, .int .u64 0] 28)) w' → w'.heap[w.heap.size]? = some (.cells #[.int .u8 0, .int .u8 0, .int .u8 0, .int .u8 0, .int .u8 0, .int .u8 0, .int .u8 0, .int .u8 0, .int .u8 0, .int .u8 0, .int .u8 0, .int .u8 0, .int .i64 0, .int .i64 0, .int .u64 0] 28 (0, 0)) := fun w' k => (k.block w.heap.size (by simp) (by simp)).trans (heap_alloc_new w (.cells #[.int .u8 0, .int .u8 0, .int .u8 0, .int .u8 0, .int .u8 0, .int .u8 0, .int .u8 0, .int .u8 0, .int .u8 0, .int .u8 0, .int .u8 0, .int .u8 0, .int .i64 0, .int .i64 0, .int .u64 0] 28))
  have hws : w.heap.size < (w.alloc (.cells #[.int .u8 0, .int .u8 0, .int .u8 0, .int .u8 0, .int .u8 0, .int .u8 0, .int .u8 0, .int .u8 0, .int .u8 0, .int .u8 0, .int .u8 0, .int .u8 0, .int .i64 0, .int .i64 0, .int .u64 0] 28)).heap.size := by simp
  generalize w.alloc (.cells #[.int .u8 0, .int .u8 0, .int .u8 0, .int .u8 0, .int .u8 0, .int .u8 0, .int .u8 0, .int .u8 0, .int .u8 0, .int .u8 0, .int .u8 0, .int .u8 0, .int .i64 0, .int .i64 0, .int .u64 0] 28) = w1 at *
  have HG1 := Lib.hid hg1
  have HZ := Lib.hid hz
  clear hg1 hz HL
  refine wp_region_S (RS w1 5 15 16 28 #[.int .u8 0, .int .u8 0, .int .u8 0, .int .u8 0, .int .u8 0, .int .u8 0, .int .u8 0, .int .u8 0, .int .u8 0, .int .u8 0, .int .u8 0, .int .u8 0, .int .i64 0, .int .i64 0, .int .u64 0] #[.int .u8 t0, .int .u8 t1, .int .u8 t2, .int .u8 t3, .int .u8 t4, .int .u8 t5, .int .u8 f0, .int .u8 f1, .int .u8 f2, .int .u8 f3, .int .u8 f4, .int .u8 f5, .int .i64 T, .int .i64 S, .int .u64 0]) (by kernel_rfl) ⟨Gro.drew (Gro.refl _ _), fun h => absurd h (by decide)⟩ ?_
  refine takeY (i := 0) (x := 15) (v := .slice (some ⟨b, o, none⟩) 28 cap) rfl (by decide) (by decide) (by decide) (by kernel_rfl) (by kernel_rfl) (by kernel_rfl) (fun _ _ _ h => h) (by intro w; go_simp) ?_
  simp only [Act.put, List.setIfInBounds_toArray, List.set_cons_zero, List.set_cons_succ]
  refine takeY (i := 1) (x := 16) (v := .slice (some ⟨b, o + 4, none⟩) 24 (cap - 4)) rfl (by decide) (by decide) (by decide) (by kernel_rfl) (by kernel_rfl) (by kernel_rfl) (fun _ _ _ h => h) (by intro w; go_simp) ?_
  simp only [Act.put, List.setIfInBounds_toArray, List.set_cons_zero, List.set_cons_succ]
  refine takeC (i := 2) (x := 17) (v := .agg #[.int .u8 t0, .int .u8 t1, .int .u8 t2, .int .u8 t3, .int .u8 t4, .int .u8 t5]) 42 #[.slice (some ⟨b, o + 4, none⟩) 24 (cap - 4)] rfl (by decide) (by decide) (by decide) (by kernel_rfl) (by kernel_rfl) (by kernel_rfl) (fun _ _ _ h => h) (by intro w; go_simp) (fun w' k => HS4.out w' (HG1.out.trans k)) ?_
  simp only [Act.put, List.setIfInBounds_toArray, List.set_cons_zero, List.set_cons_succ]
  refine takeY (i := 3) (x := 18) (v := .slice (some ⟨b, o, none⟩) 28 cap) rfl (by decide) (by decide) (by decide) (by kernel_rfl) (by kernel_rfl) (by kernel_rfl) (fun _ _ _ h => h) (by intro w; go_simp) ?_
  simp only [Act.put, List.setIfInBounds_toArray, List.set_cons_zero, List.set_cons_succ]
  refine takeY (i := 4) (x := 19) (v := .slice (some ⟨b, o + 10, none⟩) 18 (cap - 10)) rfl (by decide) (by decide) (by decide) (by kernel_rfl) (by kernel_rfl) (by kernel_rfl) (fun _ _ _ h => h) (by intro w; go_simp) ?_
  simp only [Act.put, List.setIfInBounds_toArray, List.set_cons_zero, List.set_cons_succ]
  refine takeC (i := 5) (x := 20) (v := .agg #[.int .u8 f0, .int .u8 f1, .int .u8 f2, .int .u8 f3, .int .u8 f4, .int .u8 f5]) 42 #[.slice (some ⟨b, o + 10, none⟩) 18 (cap - 10)] rfl (by decide) (by decide) (by decide) (by kernel_rfl) (by kernel_rfl) (by kernel_rfl) (fun _ _ _ h => h) (by intro w; go_simp) (fun w' k => HS10.out w' (HG1.out.trans k)) ?_
  simp only [Act.put, List.setIfInBounds_toArray, List.set_cons_zero, List.set_cons_succ]
  refine takeY (i := 6) (x := 21) (v := .slice (some ⟨b, o, none⟩) 28 cap) rfl (by decide) (by decide) (by decide) (by kernel_rfl) (by kernel_rfl) (by kernel_rfl) (fun _ _ _ h => h) (by intro w; go_simp) ?_
  simp only [Act.put, List.setIfInBounds_toArray, List.set_cons_zero, List.set_cons_succ]
  refine takeY (i := 7) (x := 22) (v := .slice (some ⟨b, o + 16, none⟩) 12 (cap - 16)) rfl (by decide) (by decide) (by decide) (by kernel_rfl) (by kernel_rfl) (by kernel_rfl) (fun _ _ _ h => h) (by intro w; go_simp) ?_
  simp only [Act.put, List.setIfInBounds_toArray, List.set_cons_zero, List.set_cons_succ]
  refine takeC (i := 8) (x := 23) (v := .int .i64 m16) 43 #[.slice (some ⟨b, o + 16, none⟩) 12 (cap - 16)] rfl (by decide) (by decide) (by decide) (by kernel_rfl) (by kernel_rfl) (by kernel_rfl) (fun _ _ _ h => h) (by intro w; go_simp) (fun w' k => HN16.out w' (HG1.out.trans k)) ?_
  simp only [Act.put, List.setIfInBounds_toArray, List.set_cons_zero, List.set_cons_succ]
  refine takeY (i := 9) (x := 24) (v := .int .i64 T) rfl (by decide) (by decide) (by decide) (by kernel_rfl) (by kernel_rfl) (by kernel_rfl) (fun _ _ _ h => h) (by intro w; go_simp) ?_
  simp only [Act.put, List.setIfInBounds_toArray, List.set_cons_zero, List.set_cons_succ]
  refine takeY (i := 10) (x := 25) (v := .slice (some ⟨b, o, none⟩) 28 cap) rfl (by decide) (by decide) (by decide) (by kernel_rfl) (by kernel_rfl) (by kernel_rfl) (fun _ _ _ h => h) (by intro w; go_simp) ?_
  simp only [Act.put, List.setIfInBounds_toArray, List.set_cons_zero, List.set_cons_succ]
  refine takeY (i := 11) (x := 26) (v := .slice (some ⟨b, o + 18, none⟩) 10 (cap - 18)) rfl (by decide) (by decide) (by decide) (by kernel_rfl) (by kernel_rfl) (by kernel_rfl) (fun _ _ _ h => h) (by intro w; go_simp) ?_
  simp only [Act.put, List.setIfInBounds_toArray, List.set_cons_zero, List.set_cons_succ]
  refine takeC (i := 12) (x := 27) (v := .int .i64 m18) 43 #[.slice (some ⟨b, o + 18, none⟩) 10 (cap - 18)] rfl (by decide) (by decide) (by decide) (by kernel_rfl) (by kernel_rfl) (by kernel_rfl) (fun _ _ _ h => h) (by intro w; go_simp) (fun w' k => HN18.out w' (HG1.out.trans k)) ?_
  simp only [Act.put, List.setIfInBounds_toArray, List.set_cons_zero, List.set_cons_succ]
  refine takeY (i := 13) (x := 28) (v := .int .i64 S) rfl (by decide) (by decide) (by decide) (by kernel_rfl) (by kernel_rfl) (by kernel_rfl) (fun _ _ _ h => h) (by intro w; go_simp) ?_
  simp only [Act.put, List.setIfInBounds_toArray, List.set_cons_zero, List.set_cons_succ]
  refine takeY (i := 14) (x := 29) (v := .agg #[.int .u8 t0, .int .u8 t1, .int .u8 t2, .int .u8 t3, .int .u8 t4, .int .u8 t5, .int .u8 f0, .int .u8 f1, .int .u8 f2, .int .u8 f3, .int .u8 f4, .int .u8 f5, .int .i64 T, .int .i64 S, .int .u64 0]) rfl (by decide) (by decide) (by decide) (by kernel_rfl) (by kernel_rfl) (by kernel_rfl) (fun _ _ _ h => h) (by intro w; go_simp) ?_
  simp only [Act.put, List.setIfInBounds_toArray, List.set_cons_zero, List.set_cons_succ]
  refine takeA rfl (by kernel_rfl) (by decide) (by kernel_rfl) (by simp) (by intro w; go_simp) ?_
  intro g hge
  simp only [Act.put, List.setIfInBounds_toArray, List.set_cons_zero, List.set_cons_succ]
  refine takeS (g := g) rfl (by kernel_rfl) (by decide) (by kernel_rfl) (by kernel_rfl) (by decide) rfl ?_ (by kernel_rfl) ?_
  · intro w2 hg2 hge2 hrow
    have hf : ∀ j, w2.frozen? ⟨g, j, none⟩ = false := fun j => frozen_of_row w2 g j _ _ hrow
    have z0 := cell_of_row w2 g 0 _ _ _ hrow
    have z1 := cell_of_row w2 g 1 _ _ _ hrow
    have z2 := cell_of_row w2 g 2 _ _ _ hrow
    have z3 := cell_of_row w2 g 3 _ _ _ hrow
    have z4 := cell_of_row w2 g 4 _ _ _ hrow
    have z5 := cell_of_row w2 g 5 _ _ _ hrow
    have z6 := cell_of_row w2 g 6 _ _ _ hrow
    have z7 := cell_of_row w2 g 7 _ _ _ hrow
    have z8 := cell_of_row w2 g 8 _ _ _ hrow
    have z9 := cell_of_row w2 g 9 _ _ _ hrow
    have z10 := cell_of_row w2 g 10 _ _ _ hrow
    have z11 := cell_of_row w2 g 11 _ _ _ hrow
    have z12 := cell_of_row w2 g 12 _ _ _ hrow
    have z13 := cell_of_row w2 g 13 _ _ _ hrow
    have z14 := cell_of_row w2 g 14 _ _ _ hrow
    simp only [List.getElem?_toArray, List.getElem?_cons_zero, List.getElem?_cons_succ] at z0 z1 z2 z3 z4 z5 z6 z7 z8 z9 z10 z11 z12 z13 z14
    have HROW := Lib.hid hrow
    have HG2 := Lib.hid hg2
    clear hrow hg2
    refine ⟨_, by go_simp; rfl, ?_, ?_⟩
    · repeat (first | with_reducible exact HG2.out | with_reducible refine Gro.drew ?_ | with_reducible refine Gro.setNew ?_ hge2 _)
    · with_reducible refine store15 _ _ _ (.int .u8 0) (.int .u8 0) (.int .u8 0) (.int .u8 0) (.int .u8 0) (.int .u8 0) (.int .u8 0) (.int .u8 0) (.int .u8 0) (.int .u8 0) (.int .u8 0) (.int .u8 0) (.int .i64 0) (.int .i64 0) (.int .u64 0) _ _ _ _ _ _ _ _ _ _ _ _ _ _ _ HROW.out
  intro w2 hg2 hge2 hrow
  have HG2 := Lib.hid hg2
  have HROW2 := Lib.hid hrow
  clear hg2 hrow
  go_wp2_with fail
  go_loopw [6] (fun i wr => ∃ k : Nat, k ≤ 8 ∧ i = .int .i64 k ∧ Gro (some g) w2 wr ∧ wr.heap[g]? = some (.cells #[.int .u8 t0, .int .u8 t1, .int .u8 t2, .int .u8 t3, .int .u8 t4, .int .u8 t5, .int .u8 f0, .int .u8 f1, .int .u8 f2, .int .u8 f3, .int .u8 f4, .int .u8 f5, .int .i64 T, .int .i64 S, .int .u64 (mapV bs k)] 28 (0, 0))) (fun i _ => 8 - (intOf i).toNat)
  case atStart => exact ⟨0, by decide, rfl, Gro.refl _ _, HROW2.out⟩
  case round =>
    obtain ⟨k, hk, rfl, hgr, hrow⟩ := hrel
    have HGR := Lib.hid hgr
    have HROW := Lib.hid hrow
    by_cases h8 : k < 8
    · have hcm := cell_of_row wr g 14 _ _ _ hrow
      have hfr := frozen_of_row wr g 14 _ _ hrow
      have hy := (hgr.cell (p := ⟨b, o + (20 + k), none⟩) (by have := (HG1.out.trans HG2.out).size; simp; omega) (by simp; omega)).trans (HY.out w2 (HG1.out.trans HG2.out) k h8)
      have hor := HOR.out k h8
      obtain ⟨⟨m0, m1⟩, y0, y1⟩ := HMV.out k
      simp only [List.getElem?_toArray, List.getElem?_cons_zero, List.getElem?_cons_succ] at hcm
      have HM1 := Lib.hid (HMV.out (k + 1)).1
      clear hrow hgr
      have hp1 : bs.getD (20 + k) 0 * 2 ^ (8 * k) < 18446744073709551616 ∧ 0 ≤ bs.getD (20 + k) 0 * 2 ^ (8 * k) := by
        have hpp : (0 : Int) ≤ 2 ^ (8 * k) := Int.le_of_lt (Int.pow_pos (by decide))
        refine ⟨?_, Int.mul_nonneg y0 hpp⟩
        have h1 := HM1.out
        have h2 : (2 : Int) ^ (8 * (k + 1)) ≤ 18446744073709551616 := by
          rcases (show k = 0 ∨ k = 1 ∨ k = 2 ∨ k = 3 ∨ k = 4 ∨ k = 5 ∨ k = 6 ∨ k = 7 from by omega) with rfl | rfl | rfl | rfl | rfl | rfl | rfl | rfl <;> decide
        have h3 : mapV bs (k + 1) = mapV bs k + bs.getD (20 + k) 0 * 2 ^ (8 * k) := rfl
        omega
      obtain ⟨q0, q1⟩ := hp1
      rw [IntKind.wrap_u64, Int.emod_eq_of_lt q1 q0] at hor
      have HNX := Lib.hid (rfl : mapV bs (k + 1) = mapV bs (k + 1))
      generalize hM : mapV bs k = Mk at *
      generalize hM2 : mapV bs (k + 1) = M2 at *
      have HM2 := Lib.hid hM2
      generalize bs.getD (20 + k) 0 = y at *
      have HK : Hid (k < 8) := h8
      have i0 : (0 : Int) ≤ 20 + (k : Int) := by omega
      have i1 : 20 + (k : Int) < 28 := by omega
      have i2 : 20 + k < 28 := by omega
      have i3 : (0 : Int) ≤ 8 * (k : Int) := by omega
      have i4 : 8 * (k : Int) < 64 := by omega
      have i5 : 8 * k < 64 := by omega
      clear hM hM2 HM1
      go_wp2_with fail
      go_region
      refine gen_world (fun W' => Gro (some g) w2 W' ∧ W'.heap[g]? = some (.cells #[.int .u8 t0, .int .u8 t1, .int .u8 t2, .int .u8 t3, .int .u8 t4, .int .u8 t5, .int .u8 f0, .int .u8 f1, .int .u8 f2, .int .u8 f3, .int .u8 f4, .int .u8 f5, .int .i64 T, .int .i64 S, .int .u64 M2] 28 (0, 0))) ⟨?_, ?_⟩ ?_
      · exact Gro.setCell (HGR.out.drew) _ _
      · have h := heap_setCell_same wr.drew g 14 _ _ (.int .u64 M2) HROW.out
        simp only [List.setIfInBounds_toArray, List.set_cons_zero, List.set_cons_succ] at h
        exact h
      rintro w7 ⟨hg7, hr7⟩
      have HR7 := Lib.hid (And.intro hg7 hr7)
      clear hg7 hr7 hcm hfr hy hor HGR HROW
      go_wp2_with fail
      go_roundw
      case rel => exact ⟨k + 1, by have := HK.out; omega, by go_num, HR7.out.1, by rw [HM2.out]; exact HR7.out.2⟩
      case measure => have := HK.out; simp [intOf]; omega
    · obtain rfl : k = 8 := by omega
      have hX0 : Gro none w1 wr := ⟨hgr.os.trans HG2.out.os, hgr.output.trans HG2.out.output, Nat.le_trans HG2.out.size hgr.size, fun k hk _ => (hgr.block k (Nat.lt_of_lt_of_le hk HG2.out.size) (by simp; omega)).trans (HG2.out.block k hk (by simp))⟩
      clear HG2
      have HG2 := Lib.hid hX0
      rw [← HM8.out] at hrow
      have HC := Lib.hid (fun w' (k : Gro none wr w') => (k.block g (blk_in hrow) (by simp)).trans hrow)
      have c0 := cell_of_row wr g 0 _ _ _ hrow
      have c1 := cell_of_row wr g 1 _ _ _ hrow
      have c2 := cell_of_row wr g 2 _ _ _ hrow
      have c3 := cell_of_row wr g 3 _ _ _ hrow
      have c4 := cell_of_row wr g 4 _ _ _ hrow
      have c5 := cell_of_row wr g 5 _ _ _ hrow
      have c6 := cell_of_row wr g 6 _ _ _ hrow
      have c7 := cell_of_row wr g 7 _ _ _ hrow
      have c8 := cell_of_row wr g 8 _ _ _ hrow
      have c9 := cell_of_row wr g 9 _ _ _ hrow
      have c10 := cell_of_row wr g 10 _ _ _ hrow
      have c11 := cell_of_row wr g 11 _ _ _ hrow
      have c12 := cell_of_row wr g 12 _ _ _ hrow
      have c13 := cell_of_row wr g 13 _ _ _ hrow
      have c14 := cell_of_row wr g 14 _ _ _ hrow
      simp only [List.getElem?_toArray, List.getElem?_cons_zero, List.getElem?_cons_succ] at c0 c1 c2 c3 c4 c5 c6 c7 c8 c9 c10 c11 c12 c13 c14
      clear hrow hgr HROW HOR HMV HY hX0 HGR HROW2
      by_cases hok : okB T S
      · have HQ := Lib.hid (rack_any ⟨t0, t1, t2, t3, t4, t5⟩ ⟨f0, f1, f2, f3, f4, f5⟩ T S M wr hok HM.out)
        have hal := ack_len ⟨t0, t1, t2, t3, t4, t5⟩ ⟨f0, f1, f2, f3, f4, f5⟩ T S M
        unfold ackV at HQ
        simp only at HQ
        generalize hY : ackL ⟨t0, t1, t2, t3, t4, t5⟩ ⟨f0, f1, f2, f3, f4, f5⟩ T S M = Y at HQ hal
        have HY := Lib.hid hY
        clear hY
        go_wp2_with fail
        refine HQ.out.mono ?_
        rintro e w3 ⟨v, rfl, hg3, ho3⟩
        obtain ⟨q, dd, rfl, -, hlY, -⟩ := ho3.lie
        have HX := Lib.hid (HG2.out.trans hg3)
        have HC3 := Lib.hid (fun w' (k : Gro none w3 w') => HC.out w' (hg3.trans k))
        have HQ2 := Lib.hid (sameBytes_any (some ⟨b, o, none⟩) q cap dd bs Y w3 (HBS.out _ (HG1.out.trans HX.out)) hlY (by rw [HLEN.out]; decide))
        have HYB : Hid (P ↔ bs = Y) := ⟨fun h => (HY.out ▸ (HD.out.1 h).2).symm, fun h => HD.out.2 ⟨hok, HY.out ▸ h.symm⟩⟩
        rw [HLEN.out, hal] at HQ2
        rw [hal]
        clear ho3 hlY hal HQ HY hg3 c0 c1 c2 c3 c4 c5 c6 c7 c8 c9 c10 c11 c12 c13 c14
        by_cases heq : bs = Y
        · rw [decide_eq_true heq] at HQ2
          have hP : P := HYB.out.2 heq
          clear heq HYB hok
          go_wp2_with fail
          refine HQ2.out.mono ?_
          rintro e w4 ⟨rfl, hg4⟩
          have hzX := HZ.out _ (HX.out.trans hg4)
          have hf : ∀ j, w4.frozen? ⟨w.heap.size, j, none⟩ = false := fun j => frozen_of_row w4 w.heap.size j _ _ hzX
          have HZX := Lib.hid hzX
          have z0 := cell_of_row w4 w.heap.size 0 _ _ _ hzX
          have z1 := cell_of_row w4 w.heap.size 1 _ _ _ hzX
          have z2 := cell_of_row w4 w.heap.size 2 _ _ _ hzX
          have z3 := cell_of_row w4 w.heap.size 3 _ _ _ hzX
          have z4 := cell_of_row w4 w.heap.size 4 _ _ _ hzX
          have z5 := cell_of_row w4 w.heap.size 5 _ _ _ hzX
          have z6 := cell_of_row w4 w.heap.size 6 _ _ _ hzX
          have z7 := cell_of_row w4 w.heap.size 7 _ _ _ hzX
          have z8 := cell_of_row w4 w.heap.size 8 _ _ _ hzX
          have z9 := cell_of_row w4 w.heap.size 9 _ _ _ hzX
          have z10 := cell_of_row w4 w.heap.size 10 _ _ _ hzX
          have z11 := cell_of_row w4 w.heap.size 11 _ _ _ hzX
          have z12 := cell_of_row w4 w.heap.size 12 _ _ _ hzX
          have z13 := cell_of_row w4 w.heap.size 13 _ _ _ hzX
          have z14 := cell_of_row w4 w.heap.size 14 _ _ _ hzX
          simp only [List.getElem?_toArray, List.getElem?_cons_zero, List.getElem?_cons_succ] at z0 z1 z2 z3 z4 z5 z6 z7 z8 z9 z10 z11 z12 z13 z14
          clear hzX
          have hcX := HC3.out _ hg4
          have c0 := cell_of_row w4 g 0 _ _ _ hcX
          have c1 := cell_of_row w4 g 1 _ _ _ hcX
          have c2 := cell_of_row w4 g 2 _ _ _ hcX
          have c3 := cell_of_row w4 g 3 _ _ _ hcX
          have c4 := cell_of_row w4 g 4 _ _ _ hcX
          have c5 := cell_of_row w4 g 5 _ _ _ hcX
          have c6 := cell_of_row w4 g 6 _ _ _ hcX
          have c7 := cell_of_row w4 g 7 _ _ _ hcX
          have c8 := cell_of_row w4 g 8 _ _ _ hcX
          have c9 := cell_of_row w4 g 9 _ _ _ hcX
          have c10 := cell_of_row w4 g 10 _ _ _ hcX
          have c11 := cell_of_row w4 g 11 _ _ _ hcX
          have c12 := cell_of_row w4 g 12 _ _ _ hcX
          have c13 := cell_of_row w4 g 13 _ _ _ hcX
          have c14 := cell_of_row w4 g 14 _ _ _ hcX
          simp only [List.getElem?_toArray, List.getElem?_cons_zero, List.getElem?_cons_succ] at c0 c1 c2 c3 c4 c5 c6 c7 c8 c9 c10 c11 c12 c13 c14
          have HGX := Lib.hid (HX.out.trans hg4)
          clear hcX HQ2 hg4
          go_wp2_with fail
          clear hf c0 c1 c2 c3 c4 c5 c6 c7 c8 c9 c10 c11 c12 c13 c14
          refine gen_world (fun W' => Gro (some w.heap.size) w4 W' ∧ W'.heap[w.heap.size]? = some (.cells #[.int .u8 t0, .int .u8 t1, .int .u8 t2, .int .u8 t3, .int .u8 t4, .int .u8 t5, .int .u8 f0, .int .u8 f1, .int .u8 f2, .int .u8 f3, .int .u8 f4, .int .u8 f5, .int .i64 T, .int .i64 S, .int .u64 M] 28 (0, 0))) ⟨?_, ?_⟩ ?_
          · repeat (first | with_reducible exact Gro.refl _ _ | with_reducible refine Gro.drew ?_ | with_reducible refine Gro.setCell ?_ _ _)
          · (try rw [heap_of_drew])
            with_reducible refine store15 _ _ _ (.int .u8 0) (.int .u8 0) (.int .u8 0) (.int .u8 0) (.int .u8 0) (.int .u8 0) (.int .u8 0) (.int .u8 0) (.int .u8 0) (.int .u8 0) (.int .u8 0) (.int .u8 0) (.int .i64 0) (.int .i64 0) (.int .u64 0) _ _ _ _ _ _ _ _ _ _ _ _ _ _ _ HZX.out
          clear z0 z1 z2 z3 z4 z5 z6 z7 z8 z9 z10 z11 z12 z13 z14
          rintro w6 ⟨hg6, hz6⟩
          have d0 := cell_of_row w6 w.heap.size 0 _ _ _ hz6
          have d1 := cell_of_row w6 w.heap.size 1 _ _ _ hz6
          have d2 := cell_of_row w6 w.heap.size 2 _ _ _ hz6
          have d3 := cell_of_row w6 w.heap.size 3 _ _ _ hz6
          have d4 := cell_of_row w6 w.heap.size 4 _ _ _ hz6
          have d5 := cell_of_row w6 w.heap.size 5 _ _ _ hz6
          have d6 := cell_of_row w6 w.heap.size 6 _ _ _ hz6
          have d7 := cell_of_row w6 w.heap.size 7 _ _ _ hz6
          have d8 := cell_of_row w6 w.heap.size 8 _ _ _ hz6
          have d9 := cell_of_row w6 w.heap.size 9 _ _ _ hz6
          have d10 := cell_of_row w6 w.heap.size 10 _ _ _ hz6
          have d11 := cell_of_row w6 w.heap.size 11 _ _ _ hz6
          have d12 := cell_of_row w6 w.heap.size 12 _ _ _ hz6
          have d13 := cell_of_row w6 w.heap.size 13 _ _ _ hz6
          have d14 := cell_of_row w6 w.heap.size 14 _ _ _ hz6
          simp only [List.getElem?_toArray, List.getElem?_cons_zero, List.getElem?_cons_succ] at d0 d1 d2 d3 d4 d5 d6 d7 d8 d9 d10 d11 d12 d13 d14
          have HG6 := Lib.hid hg6
          clear hg6 hz6
          (try go_wp2_with fail)
          (try simp only [Exit.inBlock, Exit.then])
          refine bodyPost_ret (by simp [results, Tryd.results23, go_sem, d0, d1, d2, d3, d4, d5, d6, d7, d8, d9, d10, d11, d12, d13, d14]; try rfl) rfl ?_
          refine ⟨fun _ => rfl, fun h => absurd hP h, ?_⟩
          have h1 := HG1.out.trans HGX.out
          have h6 := HG6.out
          exact ⟨h6.os.trans h1.os, h6.output.trans h1.output, Nat.le_trans h1.size h6.size, fun k hk _ => (h6.block k (Nat.lt_of_lt_of_le hk h1.size) (by simp; omega)).trans (h1.block k hk (by simp))⟩
        · rw [decide_eq_false heq] at HQ2
          have hnP : ¬ P := fun h => heq (HYB.out.1 h)
          clear heq HYB hok
          go_wp2_with fail
          refine HQ2.out.mono ?_
          rintro e w4 ⟨rfl, hg4⟩
          have HGX := Lib.hid (HX.out.trans hg4)
          clear HQ2 hg4
          have hzX := HZ.out _ HGX.out
          have hf : ∀ j, w4.frozen? ⟨w.heap.size, j, none⟩ = false := fun j => frozen_of_row w4 w.heap.size j _ _ hzX
          have HZX := Lib.hid hzX
          have z0 := cell_of_row w4 w.heap.size 0 _ _ _ hzX
          have z1 := cell_of_row w4 w.heap.size 1 _ _ _ hzX
          have z2 := cell_of_row w4 w.heap.size 2 _ _ _ hzX
          have z3 := cell_of_row w4 w.heap.size 3 _ _ _ hzX
          have z4 := cell_of_row w4 w.heap.size 4 _ _ _ hzX
          have z5 := cell_of_row w4 w.heap.size 5 _ _ _ hzX
          have z6 := cell_of_row w4 w.heap.size 6 _ _ _ hzX
          have z7 := cell_of_row w4 w.heap.size 7 _ _ _ hzX
          have z8 := cell_of_row w4 w.heap.size 8 _ _ _ hzX
          have z9 := cell_of_row w4 w.heap.size 9 _ _ _ hzX
          have z10 := cell_of_row w4 w.heap.size 10 _ _ _ hzX
          have z11 := cell_of_row w4 w.heap.size 11 _ _ _ hzX
          have z12 := cell_of_row w4 w.heap.size 12 _ _ _ hzX
          have z13 := cell_of_row w4 w.heap.size 13 _ _ _ hzX
          have z14 := cell_of_row w4 w.heap.size 14 _ _ _ hzX
          simp only [List.getElem?_toArray, List.getElem?_cons_zero, List.getElem?_cons_succ] at z0 z1 z2 z3 z4 z5 z6 z7 z8 z9 z10 z11 z12 z13 z14
          clear hzX
          go_wp2_with fail
          clear hf
          refine gen_world (fun W' => Gro (some w.heap.size) w4 W' ∧ W'.heap[w.heap.size]? = some (.cells #[.int .u8 0, .int .u8 0, .int .u8 0, .int .u8 0, .int .u8 0, .int .u8 0, .int .u8 0, .int .u8 0, .int .u8 0, .int .u8 0, .int .u8 0, .int .u8 0, .int .i64 0, .int .i64 0, .int .u64 0] 28 (0, 0))) ⟨?_, ?_⟩ ?_
          · repeat (first | with_reducible exact Gro.refl _ _ | with_reducible refine Gro.drew ?_ | with_reducible refine Gro.setCell ?_ _ _)
          · (try rw [heap_of_drew])
            with_reducible refine store15 _ _ _ (.int .u8 0) (.int .u8 0) (.int .u8 0) (.int .u8 0) (.int .u8 0) (.int .u8 0) (.int .u8 0) (.int .u8 0) (.int .u8 0) (.int .u8 0) (.int .u8 0) (.int .u8 0) (.int .i64 0) (.int .i64 0) (.int .u64 0) _ _ _ _ _ _ _ _ _ _ _ _ _ _ _ HZX.out
          clear z0 z1 z2 z3 z4 z5 z6 z7 z8 z9 z10 z11 z12 z13 z14
          rintro w6 ⟨hg6, hz6⟩
          have d0 := cell_of_row w6 w.heap.size 0 _ _ _ hz6
          have d1 := cell_of_row w6 w.heap.size 1 _ _ _ hz6
          have d2 := cell_of_row w6 w.heap.size 2 _ _ _ hz6
          have d3 := cell_of_row w6 w.heap.size 3 _ _ _ hz6
          have d4 := cell_of_row w6 w.heap.size 4 _ _ _ hz6
          have d5 := cell_of_row w6 w.heap.size 5 _ _ _ hz6
          have d6 := cell_of_row w6 w.heap.size 6 _ _ _ hz6
          have d7 := cell_of_row w6 w.heap.size 7 _ _ _ hz6
          have d8 := cell_of_row w6 w.heap.size 8 _ _ _ hz6
          have d9 := cell_of_row w6 w.heap.size 9 _ _ _ hz6
          have d10 := cell_of_row w6 w.heap.size 10 _ _ _ hz6
          have d11 := cell_of_row w6 w.heap.size 11 _ _ _ hz6
          have d12 := cell_of_row w6 w.heap.size 12 _ _ _ hz6
          have d13 := cell_of_row w6 w.heap.size 13 _ _ _ hz6
          have d14 := cell_of_row w6 w.heap.size 14 _ _ _ hz6
          simp only [List.getElem?_toArray, List.getElem?_cons_zero, List.getElem?_cons_succ] at d0 d1 d2 d3 d4 d5 d6 d7 d8 d9 d10 d11 d12 d13 d14
          have HG6 := Lib.hid hg6
          clear hg6 hz6
          (try go_wp2_with fail)
          (try simp only [Exit.inBlock, Exit.then])
          refine bodyPost_ret (by simp [results, Tryd.results23, go_sem, d0, d1, d2, d3, d4, d5, d6, d7, d8, d9, d10, d11, d12, d13, d14]; try rfl) rfl ?_
          refine ⟨fun h => absurd h hnP, fun _ => rfl, ?_⟩
          have h1 := HG1.out.trans HGX.out
          have h6 := HG6.out
          exact ⟨h6.os.trans h1.os, h6.output.trans h1.output, Nat.le_trans h1.size h6.size, fun k hk _ => (h6.block k (Nat.lt_of_lt_of_le hk h1.size) (by simp; omega)).trans (h1.block k hk (by simp))⟩
      · have HQ := Lib.hid (rack_bad ⟨t0, t1, t2, t3, t4, t5⟩ ⟨f0, f1, f2, f3, f4, f5⟩ T S M wr hok)
        unfold ackV at HQ
        simp only at HQ
        have hnP : ¬ P := fun h => hok (HD.out.1 h).1
        clear hok
        go_wp2_with fail
        refine HQ.out.mono ?_
        rintro e w4 ⟨rfl, hg4⟩
        have HGX := Lib.hid (HG2.out.trans hg4)
        clear HQ hg4 c0 c1 c2 c3 c4 c5 c6 c7 c8 c9 c10 c11 c12 c13 c14
        have hzX := HZ.out _ HGX.out
        have hf : ∀ j, w4.frozen? ⟨w.heap.size, j, none⟩ = false := fun j => frozen_of_row w4 w.heap.size j _ _ hzX
        have HZX := Lib.hid hzX
        have z0 := cell_of_row w4 w.heap.size 0 _ _ _ hzX
        have z1 := cell_of_row w4 w.heap.size 1 _ _ _ hzX
        have z2 := cell_of_row w4 w.heap.size 2 _ _ _ hzX
        have z3 := cell_of_row w4 w.heap.size 3 _ _ _ hzX
        have z4 := cell_of_row w4 w.heap.size 4 _ _ _ hzX
        have z5 := cell_of_row w4 w.heap.size 5 _ _ _ hzX
        have z6 := cell_of_row w4 w.heap.size 6 _ _ _ hzX
        have z7 := cell_of_row w4 w.heap.size 7 _ _ _ hzX
        have z8 := cell_of_row w4 w.heap.size 8 _ _ _ hzX
        have z9 := cell_of_row w4 w.heap.size 9 _ _ _ hzX
        have z10 := cell_of_row w4 w.heap.size 10 _ _ _ hzX
        have z11 := cell_of_row w4 w.heap.size 11 _ _ _ hzX
        have z12 := cell_of_row w4 w.heap.size 12 _ _ _ hzX
        have z13 := cell_of_row w4 w.heap.size 13 _ _ _ hzX
        have z14 := cell_of_row w4 w.heap.size 14 _ _ _ hzX
        simp only [List.getElem?_toArray, List.getElem?_cons_zero, List.getElem?_cons_succ] at z0 z1 z2 z3 z4 z5 z6 z7 z8 z9 z10 z11 z12 z13 z14
        clear hzX
        go_wp2_with fail
        clear hf
        refine gen_world (fun W' => Gro (some w.heap.size) w4 W' ∧ W'.heap[w.heap.size]? = some (.cells #[.int .u8 0, .int .u8 0, .int .u8 0, .int .u8 0, .int .u8 0, .int .u8 0, .int .u8 0, .int .u8 0, .int .u8 0, .int .u8 0, .int .u8 0, .int .u8 0, .int .i64 0, .int .i64 0, .int .u64 0] 28 (0, 0))) ⟨?_, ?_⟩ ?_
        · repeat (first | with_reducible exact Gro.refl _ _ | with_reducible refine Gro.drew ?_ | with_reducible refine Gro.setCell ?_ _ _)
        · (try rw [heap_of_drew])
          with_reducible refine store15 _ _ _ (.int .u8 0) (.int .u8 0) (.int .u8 0) (.int .u8 0) (.int .u8 0) (.int .u8 0) (.int .u8 0) (.int .u8 0) (.int .u8 0) (.int .u8 0) (.int .u8 0) (.int .u8 0) (.int .i64 0) (.int .i64 0) (.int .u64 0) _ _ _ _ _ _ _ _ _ _ _ _ _ _ _ HZX.out
        clear z0 z1 z2 z3 z4 z5 z6 z7 z8 z9 z10 z11 z12 z13 z14
        rintro w6 ⟨hg6, hz6⟩
        have d0 := cell_of_row w6 w.heap.size 0 _ _ _ hz6
        have d1 := cell_of_row w6 w.heap.size 1 _ _ _ hz6
        have d2 := cell_of_row w6 w.heap.size 2 _ _ _ hz6
        have d3 := cell_of_row w6 w.heap.size 3 _ _ _ hz6
        have d4 := cell_of_row w6 w.heap.size 4 _ _ _ hz6
        have d5 := cell_of_row w6 w.heap.size 5 _ _ _ hz6
        have d6 := cell_of_row w6 w.heap.size 6 _ _ _ hz6
        have d7 := cell_of_row w6 w.heap.size 7 _ _ _ hz6
        have d8 := cell_of_row w6 w.heap.size 8 _ _ _ hz6
        have d9 := cell_of_row w6 w.heap.size 9 _ _ _ hz6
        have d10 := cell_of_row w6 w.heap.size 10 _ _ _ hz6
        have d11 := cell_of_row w6 w.heap.size 11 _ _ _ hz6
        have d12 := cell_of_row w6 w.heap.size 12 _ _ _ hz6
        have d13 := cell_of_row w6 w.heap.size 13 _ _ _ hz6
        have d14 := cell_of_row w6 w.heap.size 14 _ _ _ hz6
        simp only [List.getElem?_toArray, List.getElem?_cons_zero, List.getElem?_cons_succ] at d0 d1 d2 d3 d4 d5 d6 d7 d8 d9 d10 d11 d12 d13 d14
        have HG6 := Lib.hid hg6
        clear hg6 hz6
        (try go_wp2_with fail)
        (try simp only [Exit.inBlock, Exit.then])
        refine bodyPost_ret (by simp [results, Tryd.results23, go_sem, d0, d1, d2, d3, d4, d5, d6, d7, d8, d9, d10, d11, d12, d13, d14]; try rfl) rfl ?_
        refine ⟨fun h => absurd h hnP, fun _ => rfl, ?_⟩
        have h1 := HG1.out.trans HGX.out
        have h6 := HG6.out
        exact ⟨h6.os.trans h1.os, h6.output.trans h1.output, Nat.le_trans h1.size h6.size, fun k hk _ => (h6.block k (Nat.lt_of_lt_of_le hk h1.size) (by simp; omega)).trans (h1.block k hk (by simp))⟩
end Go.Proofs.YtadcpoglkmklhaaDoor
