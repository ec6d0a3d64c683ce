/-
  THE WALK OF act.ReadAdd: an asking. Conditions: the bytes lie where the slice says; four sentinels' own.
-/
import Derived.Test.YtflckkeaakmojaaDoorActRA
namespace Go.Proofs.YtflckkeaakmojaaDoor
open Go.RowKit

set_option maxHeartbeats 8000000 in
set_option maxRecDepth 100000 in
theorem readAdd_asks (b o cap : Nat) (bs : List Int) (B : Nat) (A : Nat → Addr) (w : World) (hs : Four B w A) (hB : B ≤ w.heap.size) (hcap : bs.length ≤ cap) (h : Lie w (some ⟨b, o, none⟩) bs) (hb : Bytes bs) (hr : longA bs 33 (kAdd bs) = 0) (hy : bs.getD 25 0 = 0) :
    Calls Tryd.prog 12 #[.slice (some ⟨b, o, none⟩) bs.length cap] w fun e w' => (isAdd bs → e = .returned (.tuple #[addOf bs, .nilIface])) ∧ (¬ isAdd bs → e = .returned (.tuple #[addV adZ adZ adZ false 0 0 0 0 0 0, errV A 2])) ∧ Gro none w w' := by
  have HL := Lib.hid (fun w' g k hg => long_add (some ⟨b, o, none⟩) cap bs B A w hs h hb w' g k hB hg)
  rw [hr] at HL
  obtain ⟨hlen, -⟩ := longA_zero hr (by decide)
  have HAD := Lib.hid (fun w' (k : Gro none w w') => addrs_any b o cap bs w' (by omega) hcap (h.gro k (by simp)))
  have HE := Lib.hid (fun w' (k : Gro none w w') (q : Option Addr) (d : Nat) (ys : List Int) (hl : ys.length = 33) (hy : Lie w' q ys) (by_ : Bytes ys) => equal_any q (some ⟨b, o, none⟩) d cap ys bs w' hy (h.gro k (by simp)) (by omega) (by omega) by_ hb)
  have HNUM : Hid (∀ w', Gro none w w' → ∀ i, i + 2 ≤ 33 → ∀ n c, 2 ≤ n → Calls Tryd.prog 28 #[.slice (some ⟨b, o + i, none⟩) n c] w' fun e w'' => e = .returned (.int .i64 (num2 bs i)) ∧ Gro none w' w'') := fun w' k i hi n c hn => (number_at2 b (o + i) n c (bs.getD i 0) (bs.getD (i + 1) 0) w' hn
    (by obtain ⟨b', o', e, hc⟩ := h.gro k (by simp) i (by omega); cases e; exact hc) (by obtain ⟨b', o', e, hc⟩ := h.gro k (by simp) (i + 1) (by omega); cases e; exact hc) (hb i) (hb (i + 1))).mono fun e w'' ⟨he, m, hm⟩ => ⟨he, hm ▸ (Gro.refl _ _).drewN m⟩
  have HN27 := Lib.hid (fun w' k n c hn => HNUM.out w' k 27 (by decide) n c hn)
  have HN29 := Lib.hid (fun w' k n c hn => HNUM.out w' k 29 (by decide) n c hn)
  have HN31 := Lib.hid (fun w' k n c hn => HNUM.out w' k 31 (by decide) n c hn)
  have HC25 : Hid (∀ w', Gro none w w' → w'.cell? ⟨b, o + 25, none⟩ = some (.int .u8 0)) := fun w' g => by
    obtain ⟨b', o', e, hc⟩ := (h.gro g (by simp)) 25 (by omega)
    rw [hy] at hc
    cases e; exact hc
  have HC26 : Hid (∀ w', Gro none w w' → w'.cell? ⟨b, o + 26, none⟩ = some (.int .u8 (bs.getD 26 0))) := fun w' g => by
    obtain ⟨b', o', e, hc⟩ := (h.gro g (by simp)) 26 (by omega)
    cases e; exact hc
  have HS := Lib.hid (fun w' (k : Gro none w w') => (show Four B w' A from hs.far fun i hi => k.block i (by omega) (by simp)))
  have hP : isAdd bs ↔ okA false (bs.getD 26 0) (num2 bs 27 % 64 / 4) (num2 bs 27 / 64) (num2 bs 29) (num2 bs 31 / 16) 0 ∧ addL (ad6 bs 4) (ad6 bs 10) (ad6 bs 16) false (bs.getD 26 0) (num2 bs 27 % 64 / 4) (num2 bs 27 / 64) (num2 bs 29) (num2 bs 31 / 16) 0 = bs := by
    unfold isAdd
    rw [if_neg (by rw [hy]; decide)]
  have hV : addOf bs = addV (ad6 bs 4) (ad6 bs 10) (ad6 bs 16) false (bs.getD 26 0) (num2 bs 27 % 64 / 4) (num2 bs 27 / 64) (num2 bs 29) (num2 bs 31 / 16) 0 := by
    unfold addOf
    rw [if_neg (by rw [hy]; decide)]
  rw [hV]
  clear hV
  generalize isAdd bs = P at *
  obtain ⟨a27, z27⟩ : 0 ≤ num2 bs 27 ∧ num2 bs 27 < 65536 := by have := hb 27; have := hb (27 + 1); unfold num2; omega
  obtain ⟨a29, z29⟩ : 0 ≤ num2 bs 29 ∧ num2 bs 29 < 65536 := by have := hb 29; have := hb (29 + 1); unfold num2; omega
  obtain ⟨a31, z31⟩ : 0 ≤ num2 bs 31 ∧ num2 bs 31 < 65536 := by have := hb 31; have := hb (31 + 1); unfold num2; omega
  obtain ⟨tk0, tk1⟩ := hb 26
  have HBA : Hid (∀ x ∈ adL (ad6 bs 4), 0 ≤ x ∧ x < 256) := fun x hx => by simp [adL, ad6] at hx; rcases hx with rfl | rfl | rfl | rfl | rfl | rfl <;> exact hb _
  have HBB : Hid (∀ x ∈ adL (ad6 bs 10), 0 ≤ x ∧ x < 256) := fun x hx => by simp [adL, ad6] at hx; rcases hx with rfl | rfl | rfl | rfl | rfl | rfl <;> exact hb _
  have HBC : Hid (∀ x ∈ adL (ad6 bs 16), 0 ≤ x ∧ x < 256) := fun x hx => by simp [adL, ad6] at hx; rcases hx with rfl | rfl | rfl | rfl | rfl | rfl <;> exact hb _
  clear HNUM
  generalize num2 bs 27 = m27 at *
  generalize num2 bs 29 = m29 at *
  generalize num2 bs 31 = m31 at *
  generalize bs.getD 26 0 = tok at *
  obtain ⟨ML, hML⟩ : ∃ M, M = m27 % 64 := ⟨_, rfl⟩
  obtain ⟨TT, hTT⟩ : ∃ M, M = ML / 4 := ⟨_, rfl⟩
  obtain ⟨SS, hSS⟩ : ∃ M, M = m27 / 64 := ⟨_, rfl⟩
  rw [← hML, ← hTT, ← hSS] at hP ⊢
  have e1 : (m27).tmod 64 = ML := (Int.tmod_eq_emod_of_nonneg (by omega)).trans hML.symm
  have e2 : ML.tdiv 4 = TT := (Int.tdiv_eq_ediv_of_nonneg (by omega)).trans hTT.symm
  have e3 : (m27).tdiv 64 = SS := (Int.tdiv_eq_ediv_of_nonneg (by omega)).trans hSS.symm
  have wM : IntKind.i64.wrap ML = ML := by simp [IntKind.wrap, IntKind.bits, IntKind.signed]; omega
  have wT : IntKind.i64.wrap TT = TT := by simp [IntKind.wrap, IntKind.bits, IntKind.signed]; omega
  have wS : IntKind.i64.wrap SS = SS := by simp [IntKind.wrap, IntKind.bits, IntKind.signed]; omega
  have wK : IntKind.i64.wrap tok = tok := by simp [IntKind.wrap, IntKind.bits, IntKind.signed]; omega
  obtain ⟨SQ, hSQ⟩ : ∃ M, M = m31 / 16 := ⟨_, rfl⟩
  rw [← hSQ] at hP ⊢
  have e4 : m31.tdiv 16 = SQ := (Int.tdiv_eq_ediv_of_nonneg (by omega)).trans hSQ.symm
  have wQ : IntKind.i64.wrap SQ = SQ := by simp [IntKind.wrap, IntKind.bits, IntKind.signed]; omega
  clear hSQ
  have HP := Lib.hid hP
  have HADR : Hid (∀ w', Gro none w w' → Calls Tryd.prog 27 #[.slice (some ⟨b, o, none⟩) 33 cap] w' fun e w'' => e = .returned (.tuple #[adV (ad6 bs 4), adV (ad6 bs 10), adV (ad6 bs 16)]) ∧ Gro none w' w'') := hlen ▸ HAD.out
  clear hP hML hTT hSS HAD hr
  generalize ad6 bs 4 = ta at *
  generalize ad6 bs 10 = fr at *
  generalize ad6 bs 16 = sa at *
  obtain ⟨t0, t1, t2, t3, t4, t5⟩ := ta
  obtain ⟨f0, f1, f2, f3, f4, f5⟩ := fr
  obtain ⟨s0, s1, s2, s3, s4, s5⟩ := sa
  rw [hlen] at HL hcap ⊢
  have i33 : (33 : Int) ≤ (cap : Int) := by omega
  have j33 : 33 ≤ cap := hcap
  have n27 : ¬ cap = 27 := by omega
  have n29 : ¬ cap = 29 := by omega
  have n31 : ¬ cap = 31 := by omega
  have n2 : ¬ cap - 27 = 2 := by omega
  have n4 : ¬ cap - 27 = 4 := by omega
  have n5 : ¬ cap - 29 = 2 := by omega
  have p2 : (2 : Int) ≤ ((cap - 27 : Nat) : Int) := by omega
  have p4 : (4 : Int) ≤ ((cap - 27 : Nat) : Int) := by omega
  have p5 : (2 : Int) ≤ ((cap - 29 : Nat) : Int) := by omega
  have hne : 1 < w.heap.size := by have := hs.big; omega
  have HNE := Lib.hid hne
  have HBW := Lib.hid hB
  clear hcap hs h hb hy hne hB
  unfold addV adZ at *
  unfold adV at HADR
  simp only at HADR ⊢
  go_enter Tryd.func12, Tryd.ntmps12
  go_wp2_with fail
  have hg1 : Gro none w ((w.alloc (.cells #[.int .u8 0, .int .u8 0, .int .u8 0, .int .u8 0, .int .u8 0, .int .u8 0, .int .u8 0, .int .u8 0, .int .u8 0, .int .u8 0, .int .u8 0, .int .u8 0, .int .u8 0, .int .u8 0, .int .u8 0, .int .u8 0, .int .u8 0, .int .u8 0, .bool false, .int .i64 0, .int .i64 0, .int .i64 0, .int .i64 0, .int .i64 0, .int .i64 0] 27)).alloc (.cells #[.int .u8 0, .int .u8 1] 5)) := ((Gro.refl _ _).alloc _).alloc _
  have hz : ∀ w', Gro none ((w.alloc (.cells #[.int .u8 0, .int .u8 0, .int .u8 0, .int .u8 0, .int .u8 0, .int .u8 0, .int .u8 0, .int .u8 0, .int .u8 0, .int .u8 0, .int .u8 0, .int .u8 0, .int .u8 0, .int .u8 0, .int .u8 0, .int .u8 0, .int .u8 0, .int .u8 0, .bool false, .int .i64 0, .int .i64 0, .int .i64 0, .int .i64 0, .int .i64 0, .int .i64 0] 27)).alloc (.cells #[.int .u8 0, .int .u8 1] 5)) w' → w'.heap[w.heap.size]? = some (.cells #[.int .u8 0, .int .u8 0, .int .u8 0, .int .u8 0, .int .u8 0, .int .u8 0, .int .u8 0, .int .u8 0, .int .u8 0, .int .u8 0, .int .u8 0, .int .u8 0, .int .u8 0, .int .u8 0, .int .u8 0, .int .u8 0, .int .u8 0, .int .u8 0, .bool false, .int .i64 0, .int .i64 0, .int .i64 0, .int .i64 0, .int .i64 0, .int .i64 0] 27 (0, 0)) := fun w' k => (k.block w.heap.size (by simp; omega) (by simp)).trans ((Below.heap_alloc _ _ _ (by simp)).trans (heap_alloc_new w _))
  have hwh : ((w.alloc (.cells #[.int .u8 0, .int .u8 0, .int .u8 0, .int .u8 0, .int .u8 0, .int .u8 0, .int .u8 0, .int .u8 0, .int .u8 0, .int .u8 0, .int .u8 0, .int .u8 0, .int .u8 0, .int .u8 0, .int .u8 0, .int .u8 0, .int .u8 0, .int .u8 0, .bool false, .int .i64 0, .int .i64 0, .int .i64 0, .int .i64 0, .int .i64 0, .int .i64 0] 27)).alloc (.cells #[.int .u8 0, .int .u8 1] 5)).heap[w.heap.size + 1]? = some (.cells #[.int .u8 0, .int .u8 1] 5 (0, 0)) := by
    have h := heap_alloc_new (w.alloc (.cells #[.int .u8 0, .int .u8 0, .int .u8 0, .int .u8 0, .int .u8 0, .int .u8 0, .int .u8 0, .int .u8 0, .int .u8 0, .int .u8 0, .int .u8 0, .int .u8 0, .int .u8 0, .int .u8 0, .int .u8 0, .int .u8 0, .int .u8 0, .int .u8 0, .bool false, .int .i64 0, .int .i64 0, .int .i64 0, .int .i64 0, .int .i64 0, .int .i64 0] 27)) (.cells #[.int .u8 0, .int .u8 1] 5)
    simp only [show ∀ (w : World) (o : Obj), (w.alloc o).heap.size = w.heap.size + 1 from fun w o => by simp] at h
    exact h
  have hws : w.heap.size < ((w.alloc (.cells #[.int .u8 0, .int .u8 0, .int .u8 0, .int .u8 0, .int .u8 0, .int .u8 0, .int .u8 0, .int .u8 0, .int .u8 0, .int .u8 0, .int .u8 0, .int .u8 0, .int .u8 0, .int .u8 0, .int .u8 0, .int .u8 0, .int .u8 0, .int .u8 0, .bool false, .int .i64 0, .int .i64 0, .int .i64 0, .int .i64 0, .int .i64 0, .int .i64 0] 27)).alloc (.cells #[.int .u8 0, .int .u8 1] 5)).heap.size := by simp; omega
  generalize (w.alloc (.cells #[.int .u8 0, .int .u8 0, .int .u8 0, .int .u8 0, .int .u8 0, .int .u8 0, .int .u8 0, .int .u8 0, .int .u8 0, .int .u8 0, .int .u8 0, .int .u8 0, .int .u8 0, .int .u8 0, .int .u8 0, .int .u8 0, .int .u8 0, .int .u8 0, .bool false, .int .i64 0, .int .i64 0, .int .i64 0, .int .i64 0, .int .i64 0, .int .i64 0] 27)).alloc (.cells #[.int .u8 0, .int .u8 1] 5) = w2 at *
  refine (HL.out w2 _ hg1 hwh).mono ?_
  rintro e w' ⟨rfl, rfl⟩
  simp only [errV]
  have HG1 := Lib.hid hg1
  have HZ := Lib.hid hz
  clear hg1 hz hwh HL
  go_wp2_with fail
  refine wp_region_S (RS w2 5 9 10 27 #[.int .u8 0, .int .u8 0, .int .u8 0, .int .u8 0, .int .u8 0, .int .u8 0, .int .u8 0, .int .u8 0, .int .u8 0, .int .u8 0, .int .u8 0, .int .u8 0, .int .u8 0, .int .u8 0, .int .u8 0, .int .u8 0, .int .u8 0, .int .u8 0, .bool false, .int .i64 0, .int .i64 0, .int .i64 0, .int .i64 0, .int .i64 0, .int .i64 0] #[.int .u8 0, .int .u8 0, .int .u8 0, .int .u8 0, .int .u8 0, .int .u8 0, .int .u8 0, .int .u8 0, .int .u8 0, .int .u8 0, .int .u8 0, .int .u8 0, .int .u8 0, .int .u8 0, .int .u8 0, .int .u8 0, .int .u8 0, .int .u8 0, .bool false, .int .i64 tok, .int .i64 0, .int .i64 0, .int .i64 0, .int .i64 0, .int .i64 0]) (by kernel_rfl) ⟨Gro.drew (Gro.refl _ _), fun h => absurd h (by decide)⟩ ?_
  refine takeY (i := 0) (x := 17) (v := .slice (some ⟨b, o, none⟩) 33 cap) rfl (by decide) (by decide) (by decide) (by kernel_rfl) (by kernel_rfl) (by kernel_rfl) (fun _ _ _ h => h) (by intro w; go_simp) ?_
  simp only [Act.put, List.setIfInBounds_toArray, List.set_cons_zero, List.set_cons_succ]
  refine takeY (i := 1) (x := 18) (v := .pointer (some ⟨b, o + 25, none⟩)) rfl (by decide) (by decide) (by decide) (by kernel_rfl) (by kernel_rfl) (by kernel_rfl) (fun _ _ _ h => h) (by intro w; go_simp) ?_
  simp only [Act.put, List.setIfInBounds_toArray, List.set_cons_zero, List.set_cons_succ]
  refine takeL (i := 2) (x := 19) (v := .int .u8 0) rfl (by decide) (by decide) (by decide) (by kernel_rfl) (by kernel_rfl) (by kernel_rfl) (fun _ _ _ h => h) (by intro w' k; have hq := HC25.out w' (HG1.out.trans k); clear k; go_simp) ?_
  simp only [Act.put, List.setIfInBounds_toArray, List.set_cons_zero, List.set_cons_succ]
  refine takeY (i := 3) (x := 20) (v := .bool false) rfl (by decide) (by decide) (by decide) (by kernel_rfl) (by kernel_rfl) (by kernel_rfl) (fun _ _ _ h => h) (by intro w; go_simp) ?_
  simp only [Act.put, List.setIfInBounds_toArray, List.set_cons_zero, List.set_cons_succ]
  refine takeY (i := 4) (x := 21) (v := .slice (some ⟨b, o, none⟩) 33 cap) rfl (by decide) (by decide) (by decide) (by kernel_rfl) (by kernel_rfl) (by kernel_rfl) (fun _ _ _ h => h) (by intro w; go_simp) ?_
  simp only [Act.put, List.setIfInBounds_toArray, List.set_cons_zero, List.set_cons_succ]
  refine takeY (i := 5) (x := 22) (v := .pointer (some ⟨b, o + 26, none⟩)) rfl (by decide) (by decide) (by decide) (by kernel_rfl) (by kernel_rfl) (by kernel_rfl) (fun _ _ _ h => h) (by intro w; go_simp) ?_
  simp only [Act.put, List.setIfInBounds_toArray, List.set_cons_zero, List.set_cons_succ]
  refine takeL (i := 6) (x := 23) (v := .int .u8 tok) rfl (by decide) (by decide) (by decide) (by kernel_rfl) (by kernel_rfl) (by kernel_rfl) (fun _ _ _ h => h) (by intro w' k; have hq := HC26.out w' (HG1.out.trans k); clear k; go_simp) ?_
  simp only [Act.put, List.setIfInBounds_toArray, List.set_cons_zero, List.set_cons_succ]
  refine takeY (i := 7) (x := 24) (v := .int .i64 tok) rfl (by decide) (by decide) (by decide) (by kernel_rfl) (by kernel_rfl) (by kernel_rfl) (fun _ _ _ h => h) (by intro w; go_simp) ?_
  simp only [Act.put, List.setIfInBounds_toArray, List.set_cons_zero, List.set_cons_succ]
  refine takeY (i := 8) (x := 25) (v := .agg #[.int .u8 0, .int .u8 0, .int .u8 0, .int .u8 0, .int .u8 0, .int .u8 0, .int .u8 0, .int .u8 0, .int .u8 0, .int .u8 0, .int .u8 0, .int .u8 0, .int .u8 0, .int .u8 0, .int .u8 0, .int .u8 0, .int .u8 0, .int .u8 0, .bool false, .int .i64 tok, .int .i64 0, .int .i64 0, .int .i64 0, .int .i64 0, .int .i64 0]) rfl (by decide) (by decide) (by decide) (by kernel_rfl) (by kernel_rfl) (by kernel_rfl) (fun _ _ _ h => h) (by intro w; go_simp) ?_
  simp only [Act.put, List.setIfInBounds_toArray, List.set_cons_zero, List.set_cons_succ]
  refine takeA rfl (by kernel_rfl) (by decide) (by kernel_rfl) (by simp) (by intro w; go_simp) ?_
  intro g hge
  simp only [Act.put, List.setIfInBounds_toArray, List.set_cons_zero, List.set_cons_succ]
  refine takeST (g := g) rfl (by kernel_rfl) (by decide) (by kernel_rfl) (by kernel_rfl) (by decide) rfl rfl rfl rfl (by kernel_rfl) (by simp [Value.oneCell']) (by kernel_rfl) ?_
  intro w3 hg3 _ hrow
  have HG := Lib.hid hg3
  have HROW := Lib.hid hrow
  clear hg3 hrow HC25 HC26
  go_wp2_with fail
  refine (HADR.out w3 (HG1.out.trans HG.out)).mono ?_
  rintro e w4 ⟨rfl, hg⟩
  have HROW := Lib.hid ((hg.block g (blk_lt HROW.out) (by simp)).trans HROW.out)
  have HG := Lib.hid (HG.out.trans hg)
  clear hg HADR
  go_wp2_with (refine store_part rfl 25 _ _ rfl g 0 rfl #[.int .u8 t0, .int .u8 t1, .int .u8 t2, .int .u8 t3, .int .u8 t4, .int .u8 t5] rfl #[.int .u8 0, .int .u8 0, .int .u8 0, .int .u8 0, .int .u8 0, .int .u8 0, .int .u8 0, .int .u8 0, .int .u8 0, .int .u8 0, .int .u8 0, .int .u8 0, .int .u8 0, .int .u8 0, .int .u8 0, .int .u8 0, .int .u8 0, .int .u8 0, .bool false, .int .i64 tok, .int .i64 0, .int .i64 0, .int .i64 0, .int .i64 0, .int .i64 0] 27 HROW.out (by simp) (by kernel_rfl) (by simp [Value.oneCell']) #[.int .u8 t0, .int .u8 t1, .int .u8 t2, .int .u8 t3, .int .u8 t4, .int .u8 t5, .int .u8 0, .int .u8 0, .int .u8 0, .int .u8 0, .int .u8 0, .int .u8 0, .int .u8 0, .int .u8 0, .int .u8 0, .int .u8 0, .int .u8 0, .int .u8 0, .bool false, .int .i64 tok, .int .i64 0, .int .i64 0, .int .i64 0, .int .i64 0, .int .i64 0] (by simp only [List.toList_toArray, setL, List.setIfInBounds_toArray, List.set_cons_zero, List.set_cons_succ, Nat.reduceAdd]) ?_)
  intro w5 hg hr
  have HROW := Lib.hid hr
  have HG := Lib.hid (HG.out.new_row hg hge)
  clear hg hr
  go_wp2_with (refine store_part rfl 25 _ _ rfl g 6 rfl #[.int .u8 f0, .int .u8 f1, .int .u8 f2, .int .u8 f3, .int .u8 f4, .int .u8 f5] rfl #[.int .u8 t0, .int .u8 t1, .int .u8 t2, .int .u8 t3, .int .u8 t4, .int .u8 t5, .int .u8 0, .int .u8 0, .int .u8 0, .int .u8 0, .int .u8 0, .int .u8 0, .int .u8 0, .int .u8 0, .int .u8 0, .int .u8 0, .int .u8 0, .int .u8 0, .bool false, .int .i64 tok, .int .i64 0, .int .i64 0, .int .i64 0, .int .i64 0, .int .i64 0] 27 HROW.out (by simp) (by kernel_rfl) (by simp [Value.oneCell']) #[.int .u8 t0, .int .u8 t1, .int .u8 t2, .int .u8 t3, .int .u8 t4, .int .u8 t5, .int .u8 f0, .int .u8 f1, .int .u8 f2, .int .u8 f3, .int .u8 f4, .int .u8 f5, .int .u8 0, .int .u8 0, .int .u8 0, .int .u8 0, .int .u8 0, .int .u8 0, .bool false, .int .i64 tok, .int .i64 0, .int .i64 0, .int .i64 0, .int .i64 0, .int .i64 0] (by simp only [List.toList_toArray, setL, List.setIfInBounds_toArray, List.set_cons_zero, List.set_cons_succ, Nat.reduceAdd]) ?_)
  intro w6 hg hr
  have HROW := Lib.hid hr
  have HG := Lib.hid (HG.out.new_row hg hge)
  clear hg hr
  go_wp2_with (refine store_part rfl 25 _ _ rfl g 12 rfl #[.int .u8 s0, .int .u8 s1, .int .u8 s2, .int .u8 s3, .int .u8 s4, .int .u8 s5] rfl #[.int .u8 t0, .int .u8 t1, .int .u8 t2, .int .u8 t3, .int .u8 t4, .int .u8 t5, .int .u8 f0, .int .u8 f1, .int .u8 f2, .int .u8 f3, .int .u8 f4, .int .u8 f5, .int .u8 0, .int .u8 0, .int .u8 0, .int .u8 0, .int .u8 0, .int .u8 0, .bool false, .int .i64 tok, .int .i64 0, .int .i64 0, .int .i64 0, .int .i64 0, .int .i64 0] 27 HROW.out (by simp) (by kernel_rfl) (by simp [Value.oneCell']) #[.int .u8 t0, .int .u8 t1, .int .u8 t2, .int .u8 t3, .int .u8 t4, .int .u8 t5, .int .u8 f0, .int .u8 f1, .int .u8 f2, .int .u8 f3, .int .u8 f4, .int .u8 f5, .int .u8 s0, .int .u8 s1, .int .u8 s2, .int .u8 s3, .int .u8 s4, .int .u8 s5, .bool false, .int .i64 tok, .int .i64 0, .int .i64 0, .int .i64 0, .int .i64 0, .int .i64 0] (by simp only [List.toList_toArray, setL, List.setIfInBounds_toArray, List.set_cons_zero, List.set_cons_succ, Nat.reduceAdd]) ?_)
  intro w7 hg hr
  have HROW := Lib.hid hr
  have HG := Lib.hid (HG.out.new_row hg hge)
  clear hg hr
  have c18 := cell_of_row w7 g 18 _ _ _ HROW.out
  simp only [List.getElem?_toArray, List.getElem?_cons_zero, List.getElem?_cons_succ] at c18
  go_wp2_with fail
  refine (HN27.out _ (HG1.out.trans HG.out) _ _ (by decide)).mono ?_
  rintro e w10 ⟨rfl, hg⟩
  have HROW := Lib.hid ((hg.block g (blk_lt HROW.out) (by simp)).trans HROW.out)
  have HG := Lib.hid (HG.out.trans hg)
  clear hg HN27 c18
  go_wp2_with fail
  refine (HN29.out _ (HG1.out.trans HG.out) _ _ (by decide)).mono ?_
  rintro e w11 ⟨rfl, hg⟩
  have HROW := Lib.hid ((hg.block g (blk_lt HROW.out) (by simp)).trans HROW.out)
  have HG := Lib.hid (HG.out.trans hg)
  clear hg HN29
  have c18 := cell_of_row w11 g 18 _ _ _ HROW.out
  have c20 := cell_of_row w11 g 20 _ _ _ HROW.out
  have c21 := cell_of_row w11 g 21 _ _ _ HROW.out
  have c22 := cell_of_row w11 g 22 _ _ _ HROW.out
  simp only [List.getElem?_toArray, List.getElem?_cons_zero, List.getElem?_cons_succ] at c18 c20 c21 c22
  have hf : ∀ j, w11.frozen? ⟨g, j, none⟩ = false := fun j => frozen_of_row w11 g j _ _ HROW.out
  go_upto_region 12 with fail
  refine gen_world (fun W' => Gro none w2 W' ∧ W'.heap[g]? = some (.cells #[.int .u8 t0, .int .u8 t1, .int .u8 t2, .int .u8 t3, .int .u8 t4, .int .u8 t5, .int .u8 f0, .int .u8 f1, .int .u8 f2, .int .u8 f3, .int .u8 f4, .int .u8 f5, .int .u8 s0, .int .u8 s1, .int .u8 s2, .int .u8 s3, .int .u8 s4, .int .u8 s5, .bool false, .int .i64 tok, .int .i64 TT, .int .i64 SS, .int .i64 m29, .int .i64 0, .int .i64 0] 27 (0, 0))) ⟨?_, ?_⟩ ?_
  · repeat (first | with_reducible exact HG.out | with_reducible refine Gro.drew ?_ | with_reducible refine Gro.setNew ?_ hge _)
  · have h := (heap_setCell_same _ g 22 _ _ (.int .i64 m29) (heap_setCell_same _ g 21 _ _ (.int .i64 SS) (heap_setCell_same _ g 20 _ _ (.int .i64 TT) HROW.out)))
    simp only [List.setIfInBounds_toArray, List.set_cons_zero, List.set_cons_succ] at h
    exact h
  rintro w12 ⟨hg, hr⟩
  have HROW := Lib.hid hr
  have HG := Lib.hid hg
  clear hg hr
  clear c18 c20 c21 c22 hf
  have c18 := cell_of_row w12 g 18 _ _ _ HROW.out
  simp only [List.getElem?_toArray, List.getElem?_cons_zero, List.getElem?_cons_succ] at c18
  go_wp2_with fail
  refine (HN31.out _ (HG1.out.trans HG.out) _ _ (by decide)).mono ?_
  rintro e w13 ⟨rfl, hg⟩
  have HROW := Lib.hid ((hg.block g (blk_lt HROW.out) (by simp)).trans HROW.out)
  have HG := Lib.hid (HG.out.trans hg)
  clear hg HN31
  clear c18
  have c23 := cell_of_row w13 g 23 _ _ _ HROW.out
  simp only [List.getElem?_toArray, List.getElem?_cons_zero, List.getElem?_cons_succ] at c23
  have hf : ∀ j, w13.frozen? ⟨g, j, none⟩ = false := fun j => frozen_of_row w13 g j _ _ HROW.out
  go_upto_region 14 with fail
  refine gen_world (fun W' => Gro none w2 W' ∧ W'.heap[g]? = some (.cells #[.int .u8 t0, .int .u8 t1, .int .u8 t2, .int .u8 t3, .int .u8 t4, .int .u8 t5, .int .u8 f0, .int .u8 f1, .int .u8 f2, .int .u8 f3, .int .u8 f4, .int .u8 f5, .int .u8 s0, .int .u8 s1, .int .u8 s2, .int .u8 s3, .int .u8 s4, .int .u8 s5, .bool false, .int .i64 tok, .int .i64 TT, .int .i64 SS, .int .i64 m29, .int .i64 SQ, .int .i64 0] 27 (0, 0))) ⟨?_, ?_⟩ ?_
  · repeat (first | with_reducible exact HG.out | with_reducible refine Gro.drew ?_ | with_reducible refine Gro.setNew ?_ hge _)
  · have h := (heap_setCell_same _ g 23 _ _ (.int .i64 SQ) HROW.out)
    simp only [List.setIfInBounds_toArray, List.set_cons_zero, List.set_cons_succ] at h
    exact h
  rintro w14 ⟨hg, hr⟩
  have HROW := Lib.hid hr
  have HG := Lib.hid hg
  clear hg hr
  clear c23 hf
  go_wp2_with (refine load_row rfl _ _ rfl _ rfl _ _ HROW.out _ Tryd.underlying27 rfl (by kernel_rfl) ?_)
  by_cases hok : okA false tok TT SS m29 SQ 0
  · have HQ := Lib.hid (add_any ⟨t0, t1, t2, t3, t4, t5⟩ ⟨f0, f1, f2, f3, f4, f5⟩ ⟨s0, s1, s2, s3, s4, s5⟩ false tok TT SS m29 SQ 0 w14 hok)
    have hal : (addL ⟨t0, t1, t2, t3, t4, t5⟩ ⟨f0, f1, f2, f3, f4, f5⟩ ⟨s0, s1, s2, s3, s4, s5⟩ false tok TT SS m29 SQ 0).length = 33 := by simp [addL, frontL, adL, twoL]
    have hby : Bytes (addL ⟨t0, t1, t2, t3, t4, t5⟩ ⟨f0, f1, f2, f3, f4, f5⟩ ⟨s0, s1, s2, s3, s4, s5⟩ false tok TT SS m29 SQ 0) := by
      intro i
      rcases Nat.lt_or_ge i 33 with hi | hi
      · have hm : (addL ⟨t0, t1, t2, t3, t4, t5⟩ ⟨f0, f1, f2, f3, f4, f5⟩ ⟨s0, s1, s2, s3, s4, s5⟩ false tok TT SS m29 SQ 0).getD i 0 ∈ addL ⟨t0, t1, t2, t3, t4, t5⟩ ⟨f0, f1, f2, f3, f4, f5⟩ ⟨s0, s1, s2, s3, s4, s5⟩ false tok TT SS m29 SQ 0 := by
          rw [List.getD_eq_getElem?_getD, List.getElem?_eq_getElem (by omega)]
          exact List.getElem_mem _
        exact add_mem hok HBA.out HBB.out HBC.out _ hm
      · rw [List.getD_eq_getElem?_getD, List.getElem?_eq_none (by omega)]
        exact ⟨by decide, by decide⟩
    unfold addV at HQ
    simp only at HQ
    generalize hY : addL ⟨t0, t1, t2, t3, t4, t5⟩ ⟨f0, f1, f2, f3, f4, f5⟩ ⟨s0, s1, s2, s3, s4, s5⟩ false tok TT SS m29 SQ 0 = Y at HQ hal hby
    have HY := Lib.hid hY
    clear hY
    go_wp2_with fail
    refine HQ.out.mono ?_
    rintro e wX ⟨v, rfl, hgX, hoX⟩
    obtain ⟨q, d, rfl, -, hlY, -⟩ := hoX.lie
    have HROW := Lib.hid ((hgX.block g (blk_lt HROW.out) (by simp)).trans HROW.out)
    have HG := Lib.hid (HG.out.trans hgX)
    have HQ2 := Lib.hid (HE.out wX (HG1.out.trans HG.out) q d Y hal hlY hby)
    have HYB : Hid (P ↔ Y = bs) := ⟨fun h => HY.out ▸ (HP.out.1 h).2, fun h => HP.out.2 ⟨hok, HY.out ▸ h⟩⟩
    rw [hal, hlen] at HQ2
    rw [hal]
    clear hoX hlY hby hal HQ HY HE hgX
    by_cases heq : Y = bs
    · rw [decide_eq_true heq] at HQ2
      have hPP : P := HYB.out.2 heq
      clear heq HYB hok
      go_wp2_with fail
      refine HQ2.out.mono ?_
      rintro e w' ⟨rfl, rfl⟩
      have hzX := HZ.out _ HG.out
      go_wp2_with (first | (refine load_row rfl _ _ rfl _ rfl _ _ HROW.out _ Tryd.underlying27 rfl (by kernel_rfl) ?_) | (refine store_row rfl 27 _ _ rfl w.heap.size rfl #[.int .u8 t0, .int .u8 t1, .int .u8 t2, .int .u8 t3, .int .u8 t4, .int .u8 t5, .int .u8 f0, .int .u8 f1, .int .u8 f2, .int .u8 f3, .int .u8 f4, .int .u8 f5, .int .u8 s0, .int .u8 s1, .int .u8 s2, .int .u8 s3, .int .u8 s4, .int .u8 s5, .bool false, .int .i64 tok, .int .i64 TT, .int .i64 SS, .int .i64 m29, .int .i64 SQ, .int .i64 0] (by rfl) #[.int .u8 0, .int .u8 0, .int .u8 0, .int .u8 0, .int .u8 0, .int .u8 0, .int .u8 0, .int .u8 0, .int .u8 0, .int .u8 0, .int .u8 0, .int .u8 0, .int .u8 0, .int .u8 0, .int .u8 0, .int .u8 0, .int .u8 0, .int .u8 0, .bool false, .int .i64 0, .int .i64 0, .int .i64 0, .int .i64 0, .int .i64 0, .int .i64 0] 27 hzX rfl (by kernel_rfl) (by simp [Value.oneCell']) ?_))
      intro w6 hg6 hr6
      have HF := Lib.hid ((HG1.out.trans HG.out).new_row hg6 (Nat.le_refl _))
      clear hg6 hzX HQ2
      have HR6 := Lib.hid hr6
      clear hr6
      (try go_wp2_with fail)
      (try simp only [Exit.inBlock, Exit.then])
      refine bodyPost_ret (res_add rfl rfl HR6.out (by kernel_rfl)) rfl ?_
      exact ⟨fun _ => rfl, fun h => absurd hPP h, HF.out⟩
    · rw [decide_eq_false heq] at HQ2
      have hnP : ¬ P := fun h => heq (HYB.out.1 h)
      clear heq HYB hok
      go_wp2_with fail
      refine HQ2.out.mono ?_
      rintro e w' ⟨rfl, rfl⟩
      clear HQ2
      have HSH : Hid (wX.cell? ⟨1, 0, none⟩ = some (.iface 89 (.pointer (some (A 1))))) := (HS.out _ (HG1.out.trans HG.out)).c1
      have hzX := HZ.out _ HG.out
      have hgX := HG1.out.trans HG.out
      go_wp2_with fail
      refine wp_region_R (fun _ w' => Gro none w w' ∧ w'.heap[w.heap.size]? = some (.cells #[.int .u8 0, .int .u8 0, .int .u8 0, .int .u8 0, .int .u8 0, .int .u8 0, .int .u8 0, .int .u8 0, .int .u8 0, .int .u8 0, .int .u8 0, .int .u8 0, .int .u8 0, .int .u8 0, .int .u8 0, .int .u8 0, .int .u8 0, .int .u8 0, .bool false, .int .i64 0, .int .i64 0, .int .i64 0, .int .i64 0, .int .i64 0, .int .i64 0] 27 (0, 0)) ∧ w'.cell? ⟨1, 0, none⟩ = some (.iface 89 (.pointer (some (A 1))))) (by kernel_rfl) ⟨hgX.drew, hzX, HSH.out⟩ ?_
      clear hzX hgX
      refine takeR (i := 0) (x := 78) (v := .agg #[.int .u8 0, .int .u8 0, .int .u8 0, .int .u8 0, .int .u8 0, .int .u8 0, .int .u8 0, .int .u8 0, .int .u8 0, .int .u8 0, .int .u8 0, .int .u8 0, .int .u8 0, .int .u8 0, .int .u8 0, .int .u8 0, .int .u8 0, .int .u8 0, .bool false, .int .i64 0, .int .i64 0, .int .i64 0, .int .i64 0, .int .i64 0, .int .i64 0]) rfl (by kernel_rfl) (by kernel_rfl) (by kernel_rfl) (fun _ _ _ h => h) (fun l w => Iff.rfl) (fun l w _ => by go_simp) ?_
      simp only [Act.put, List.setIfInBounds_toArray, List.set_cons_zero, List.set_cons_succ]
      refine takeR (i := 1) (x := 79) (v := .iface 89 (.pointer (some (A 1)))) rfl (by kernel_rfl) (by kernel_rfl) (by kernel_rfl) (fun _ _ _ h => h) (fun l w => Iff.rfl) (fun l w hw => by have hq := hw.2.2; clear hw; go_simp) ?_
      simp only [Act.put, List.setIfInBounds_toArray, List.set_cons_zero, List.set_cons_succ]
      refine takeSR (i := 2) w.heap.size #[.int .u8 0, .int .u8 0, .int .u8 0, .int .u8 0, .int .u8 0, .int .u8 0, .int .u8 0, .int .u8 0, .int .u8 0, .int .u8 0, .int .u8 0, .int .u8 0, .int .u8 0, .int .u8 0, .int .u8 0, .int .u8 0, .int .u8 0, .int .u8 0, .bool false, .int .i64 0, .int .i64 0, .int .i64 0, .int .i64 0, .int .i64 0, .int .i64 0] #[.int .u8 0, .int .u8 0, .int .u8 0, .int .u8 0, .int .u8 0, .int .u8 0, .int .u8 0, .int .u8 0, .int .u8 0, .int .u8 0, .int .u8 0, .int .u8 0, .int .u8 0, .int .u8 0, .int .u8 0, .int .u8 0, .int .u8 0, .int .u8 0, .bool false, .int .i64 0, .int .i64 0, .int .i64 0, .int .i64 0, .int .i64 0, .int .i64 0] 27 rfl (by kernel_rfl) rfl rfl (fun w' hw => hw.2.1) rfl (by kernel_rfl) (by simp [Value.oneCell']) (fun w' w'' hw hG hrow => ⟨hw.1.new_row hG (Nat.le_refl _), hrow, (World.cell?_of_block (w := w') (hG.block _ (Nat.lt_of_lt_of_le HNE.out hw.1.size) (by have := HNE.out; simp; omega))).trans hw.2.2⟩) ?_
      refine takeR (i := 3) (x := 3) (v := .iface 89 (.pointer (some (A 1)))) rfl (by kernel_rfl) (by kernel_rfl) (by kernel_rfl) (fun _ _ _ h => h) (fun l w => Iff.rfl) (fun l w _ => by go_simp) ?_
      simp only [Act.put, List.setIfInBounds_toArray, List.set_cons_zero, List.set_cons_succ]
      refine wpAnyS_done (by kernel_rfl) fun w6 hw6 => ?_
      have HF := Lib.hid hw6.1
      have hr6 := hw6.2.1
      clear hw6
      have HR6 := Lib.hid hr6
      clear hr6
      (try go_wp2_with fail)
      (try simp only [Exit.inBlock, Exit.then])
      refine bodyPost_ret (res_add rfl rfl HR6.out (by kernel_rfl)) rfl ?_
      exact ⟨fun h => absurd h hnP, fun _ => rfl, HF.out⟩
  · have hs4 := HS.out _ (HG1.out.trans HG.out)
    have HQ := Lib.hid (add_bad ⟨t0, t1, t2, t3, t4, t5⟩ ⟨f0, f1, f2, f3, f4, f5⟩ ⟨s0, s1, s2, s3, s4, s5⟩ false tok TT SS m29 SQ 0 _ w14 hok hs4.c2 (by have := hs4.big; have := (HG1.out.trans HG.out).size; have := HBW.out; omega))
    unfold addV at HQ
    simp only at HQ
    have hnP : ¬ P := fun h => hok (HP.out.1 h).1
    clear hok hs4
    go_wp2_with fail
    refine HQ.out.mono ?_
    rintro e wX ⟨rfl, hgX⟩
    have HG := Lib.hid (HG.out.trans hgX)
    clear hgX HQ HROW
    have HSH : Hid (wX.cell? ⟨1, 0, none⟩ = some (.iface 89 (.pointer (some (A 1))))) := (HS.out _ (HG1.out.trans HG.out)).c1
    have hzX := HZ.out _ HG.out
    have hgX := HG1.out.trans HG.out
    go_wp2_with fail
    refine wp_region_R (fun _ w' => Gro none w w' ∧ w'.heap[w.heap.size]? = some (.cells #[.int .u8 0, .int .u8 0, .int .u8 0, .int .u8 0, .int .u8 0, .int .u8 0, .int .u8 0, .int .u8 0, .int .u8 0, .int .u8 0, .int .u8 0, .int .u8 0, .int .u8 0, .int .u8 0, .int .u8 0, .int .u8 0, .int .u8 0, .int .u8 0, .bool false, .int .i64 0, .int .i64 0, .int .i64 0, .int .i64 0, .int .i64 0, .int .i64 0] 27 (0, 0)) ∧ w'.cell? ⟨1, 0, none⟩ = some (.iface 89 (.pointer (some (A 1))))) (by kernel_rfl) ⟨hgX.drew, hzX, HSH.out⟩ ?_
    clear hzX hgX
    refine takeR (i := 0) (x := 78) (v := .agg #[.int .u8 0, .int .u8 0, .int .u8 0, .int .u8 0, .int .u8 0, .int .u8 0, .int .u8 0, .int .u8 0, .int .u8 0, .int .u8 0, .int .u8 0, .int .u8 0, .int .u8 0, .int .u8 0, .int .u8 0, .int .u8 0, .int .u8 0, .int .u8 0, .bool false, .int .i64 0, .int .i64 0, .int .i64 0, .int .i64 0, .int .i64 0, .int .i64 0]) rfl (by kernel_rfl) (by kernel_rfl) (by kernel_rfl) (fun _ _ _ h => h) (fun l w => Iff.rfl) (fun l w _ => by go_simp) ?_
    simp only [Act.put, List.setIfInBounds_toArray, List.set_cons_zero, List.set_cons_succ]
    refine takeR (i := 1) (x := 79) (v := .iface 89 (.pointer (some (A 1)))) rfl (by kernel_rfl) (by kernel_rfl) (by kernel_rfl) (fun _ _ _ h => h) (fun l w => Iff.rfl) (fun l w hw => by have hq := hw.2.2; clear hw; go_simp) ?_
    simp only [Act.put, List.setIfInBounds_toArray, List.set_cons_zero, List.set_cons_succ]
    refine takeSR (i := 2) w.heap.size #[.int .u8 0, .int .u8 0, .int .u8 0, .int .u8 0, .int .u8 0, .int .u8 0, .int .u8 0, .int .u8 0, .int .u8 0, .int .u8 0, .int .u8 0, .int .u8 0, .int .u8 0, .int .u8 0, .int .u8 0, .int .u8 0, .int .u8 0, .int .u8 0, .bool false, .int .i64 0, .int .i64 0, .int .i64 0, .int .i64 0, .int .i64 0, .int .i64 0] #[.int .u8 0, .int .u8 0, .int .u8 0, .int .u8 0, .int .u8 0, .int .u8 0, .int .u8 0, .int .u8 0, .int .u8 0, .int .u8 0, .int .u8 0, .int .u8 0, .int .u8 0, .int .u8 0, .int .u8 0, .int .u8 0, .int .u8 0, .int .u8 0, .bool false, .int .i64 0, .int .i64 0, .int .i64 0, .int .i64 0, .int .i64 0, .int .i64 0] 27 rfl (by kernel_rfl) rfl rfl (fun w' hw => hw.2.1) rfl (by kernel_rfl) (by simp [Value.oneCell']) (fun w' w'' hw hG hrow => ⟨hw.1.new_row hG (Nat.le_refl _), hrow, (World.cell?_of_block (w := w') (hG.block _ (Nat.lt_of_lt_of_le HNE.out hw.1.size) (by have := HNE.out; simp; omega))).trans hw.2.2⟩) ?_
    refine takeR (i := 3) (x := 3) (v := .iface 89 (.pointer (some (A 1)))) rfl (by kernel_rfl) (by kernel_rfl) (by kernel_rfl) (fun _ _ _ h => h) (fun l w => Iff.rfl) (fun l w _ => by go_simp) ?_
    simp only [Act.put, List.setIfInBounds_toArray, List.set_cons_zero, List.set_cons_succ]
    refine wpAnyS_done (by kernel_rfl) fun w6 hw6 => ?_
    have HF := Lib.hid hw6.1
    have hr6 := hw6.2.1
    clear hw6
    have HR6 := Lib.hid hr6
    clear hr6
    (try go_wp2_with fail)
    (try simp only [Exit.inBlock, Exit.then])
    refine bodyPost_ret (res_add rfl rfl HR6.out (by kernel_rfl)) rfl ?_
    exact ⟨fun h => absurd h hnP, fun _ => rfl, HF.out⟩
end Go.Proofs.YtflckkeaakmojaaDoor
