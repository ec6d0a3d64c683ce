/-
  THE WALK OF ctl.ReadBar. Conditions: the fourteen sentinels' own ('Sent'); the bytes lie where the slice says.
-/
import Derived.Test.YtadcpoglkmklhaaDoorCtlA
namespace Go.Proofs.YtadcpoglkmklhaaDoor
open Go.RowKit

def bTid (bs : List Int) : Int := num2 bs 16 / 4096
def bSeq (bs : List Int) : Int := num2 bs 18 / 16
theorem heap_of_drew (w : World) : w.drew.heap = w.heap := rfl
/-- Is it a Bar? -/
def isBar (bs : List Int) : Prop := okB (bTid bs) (bSeq bs) ∧ asksL 132 (ad6 bs 4) (ad6 bs 10) (bTid bs) (bSeq bs) = bs
theorem longR_zero {bs : List Int} {k : Int} {n : Nat} (h : longR bs k n = 0) : bs.length = n ∧ (0 < n → bs.getD 0 0 = k) := by
  unfold longR at h
  by_cases h1 : 0 < bs.length ∧ bs.getD 0 0 ≠ k
  · rw [if_pos h1] at h; cases h
  · rw [if_neg h1] at h
    by_cases h2 : bs.length < n
    · rw [if_pos h2] at h; cases h
    · rw [if_neg h2] at h
      by_cases h3 : n < bs.length
      · rw [if_pos h3] at h; cases h
      · refine ⟨by omega, fun h4 => ?_⟩
        by_cases h5 : bs.getD 0 0 = k
        · exact h5
        · exact absurd ⟨by omega, h5⟩ h1
theorem Bytes.ad6 {bs : List Int} (h : Bytes bs) (i : Nat) : ∀ x ∈ adL (ad6 bs i), 0 ≤ x ∧ x < 256 := by
  intro x hx
  simp [adL, Go.Proofs.YtadcpoglkmklhaaDoor.ad6] at hx
  rcases hx with rfl | rfl | rfl | rfl | rfl | rfl
  all_goals exact h _
theorem bytes_of {l : List Int} (h : ∀ x ∈ l, 0 ≤ x ∧ x < 256) : Bytes l := by
  intro i
  rcases Nat.lt_or_ge i l.length with hi | hi
  · rw [List.getD_eq_getElem?_getD, List.getElem?_eq_getElem hi]
    exact h _ (List.getElem_mem _)
  · rw [List.getD_eq_getElem?_getD, List.getElem?_eq_none hi]
    exact ⟨by decide, by decide⟩
theorem two_bytes {n : Int} (h0 : 0 ≤ n) (h1 : n < 65536) : ∀ x ∈ twoL n, 0 ≤ x ∧ x < 256 := by
  intro x hx
  simp [twoL] at hx
  rcases hx with rfl | rfl <;> omega
theorem asks_mem {k : Int} {to fr : Ad} {tid seq : Int} (hk : 0 ≤ k ∧ k < 256) (h : okB tid seq) (ht : ∀ x ∈ adL to, 0 ≤ x ∧ x < 256) (hf : ∀ x ∈ adL fr, 0 ≤ x ∧ x < 256) : ∀ x ∈ asksL k to fr tid seq, 0 ≤ x ∧ x < 256 := by
  obtain ⟨h0, h1, h2, h3⟩ := h
  intro x hx
  unfold asksL at hx
  simp only [List.mem_append] at hx
  rcases hx with (((hx | hx) | hx) | hx) | hx
  · simp at hx
    rcases hx with rfl | rfl
    · exact hk
    · decide
  · exact ht x hx
  · exact hf x hx
  · exact two_bytes (by omega) (by omega) x hx
  · exact two_bytes (by omega) (by omega) x hx
theorem asks_len (k : Int) (to fr : Ad) (tid seq : Int) : (asksL k to fr tid seq).length = 20 := by simp [asksL, adL, twoL]

set_option maxHeartbeats 4000000 in
set_option maxRecDepth 100000 in
theorem readBar_any (p : Option Addr) (cap : Nat) (bs : List Int) (B : Nat) (A : Nat → Addr) (w : World) (hs : Four B w A) (hB : B ≤ w.heap.size) (hcap : bs.length ≤ cap) (h : Lie w p bs) (hb : Bytes bs) (hr : longR bs 132 20 = 0) :
    Calls Tryd.prog 21 #[.slice p bs.length cap] w fun e w' => (isBar bs → e = .returned (.tuple #[barV (ad6 bs 4) (ad6 bs 10) (bTid bs) (bSeq bs), .nilIface])) ∧ (¬ isBar bs → e = .returned (.tuple #[barV adZ adZ 0 0, errV A 2])) ∧ Gro none w w' := by
  have HL := Lib.hid (fun w' (k : Gro none w w') => long_any p cap bs 132 20 B A w' (hs.far fun i hi => k.block i (by omega) (by simp)) (by decide) (h.gro k (by simp)) (by decide))
  rw [hr] at HL
  obtain ⟨hlen, -⟩ := longR_zero hr
  obtain ⟨b, o, rfl, -⟩ := h 0 (by omega)
  have HA : Hid (∀ w', Gro none w w' → Calls Tryd.prog 37 #[.slice (some ⟨b, o, none⟩) bs.length cap] w' fun e w'' => e = .returned (barV (ad6 bs 4) (ad6 bs 10) (bTid bs) (bSeq bs)) ∧ Gro none w' w'') := fun w' (k : Gro none w w') => asked_any b o cap bs w' (by omega) hcap (h.gro k (by simp)) hb
  have HE := Lib.hid (fun w' (k : Gro none w w') (q : Option Addr) (d : Nat) (ys : List Int) (hl : ys.length = 20) (hy : Lie w' q ys) (by_ : Bytes ys) => equal_any q (some ⟨b, o, none⟩) d cap ys bs w' hy (h.gro k (by simp)) (by omega) (by omega) by_ hb)
  have HS := Lib.hid (fun w' (k : Gro none w w') => (show Four B w' A from hs.far fun i hi => k.block i (by omega) (by simp)))
  have HBB := Lib.hid (And.intro hb.ad6 hs.big)
  have hd : (isBar bs ↔ okB (bTid bs) (bSeq bs) ∧ asksL 132 (ad6 bs 4) (ad6 bs 10) (bTid bs) (bSeq bs) = bs) := Iff.rfl
  have HD := Lib.hid hd
  generalize isBar bs = P at *
  generalize bTid bs = T at *
  generalize bSeq bs = S at *
  have HTO := Lib.hid (hb.ad6 4)
  have HFR := Lib.hid (hb.ad6 10)
  generalize ad6 bs 4 = to at *
  generalize ad6 bs 10 = fr at *
  have hblt : b < w.heap.size := h.lt (by omega)
  clear hs h hb hr hd
  obtain ⟨t0, t1, t2, t3, t4, t5⟩ := to
  obtain ⟨f0, f1, f2, f3, f4, f5⟩ := fr
  have HLN := Lib.hid hlen
  generalize hn : bs.length = n at HL HA HE ⊢
  clear hlen hcap
  have HHN := Lib.hid hn
  clear hn
  unfold barV adZ at *
  simp only at HA ⊢
  go_enter Tryd.func21, Tryd.ntmps21
  go_wp2_with fail
  refine (HL.out _ ((Gro.refl _ _).alloc _)).mono ?_
  rintro e w' ⟨rfl, rfl⟩
  simp only [errV]
  go_wp2_with fail
  refine (HA.out _ ((Gro.refl _ _).alloc _)).mono ?_
  rintro e w2 ⟨rfl, hg2⟩
  have HZ := Lib.hid (fun w' (k : Gro none (w.alloc (.cells #[.int .u8 0, .int .u8 0, .int .u8 0, .int .u8 0, .int .u8 0, .int .u8 0, .int .u8 0, .int .u8 0, .int .u8 0, .int .u8 0, .int .u8 0, .int .u8 0, .int .i64 0, .int .i64 0] 25)) w') => (k.block w.heap.size (by simp) (by simp)).trans (heap_alloc_new w (.cells #[.int .u8 0, .int .u8 0, .int .u8 0, .int .u8 0, .int .u8 0, .int .u8 0, .int .u8 0, .int .u8 0, .int .u8 0, .int .u8 0, .int .u8 0, .int .u8 0, .int .i64 0, .int .i64 0] 25)))
  have HG0 : Hid (Gro none (w.alloc (.cells #[.int .u8 0, .int .u8 0, .int .u8 0, .int .u8 0, .int .u8 0, .int .u8 0, .int .u8 0, .int .u8 0, .int .u8 0, .int .u8 0, .int .u8 0, .int .u8 0, .int .i64 0, .int .i64 0] 25)) (w2.alloc (.cells #[.int .u8 t0, .int .u8 t1, .int .u8 t2, .int .u8 t3, .int .u8 t4, .int .u8 t5, .int .u8 f0, .int .u8 f1, .int .u8 f2, .int .u8 f3, .int .u8 f4, .int .u8 f5, .int .i64 T, .int .i64 S] 25))) := hg2.alloc _
  have HC := Lib.hid (fun w' (k : Gro none (w2.alloc (.cells #[.int .u8 t0, .int .u8 t1, .int .u8 t2, .int .u8 t3, .int .u8 t4, .int .u8 t5, .int .u8 f0, .int .u8 f1, .int .u8 f2, .int .u8 f3, .int .u8 f4, .int .u8 f5, .int .i64 T, .int .i64 S] 25)) w') => (k.block w2.heap.size (by simp) (by simp)).trans (heap_alloc_new w2 (.cells #[.int .u8 t0, .int .u8 t1, .int .u8 t2, .int .u8 t3, .int .u8 t4, .int .u8 t5, .int .u8 f0, .int .u8 f1, .int .u8 f2, .int .u8 f3, .int .u8 f4, .int .u8 f5, .int .i64 T, .int .i64 S] 25)))
  have hws : w.heap.size < w2.heap.size := by have := hg2.size; simp at this; omega
  have HW : Hid (Gro none w (w.alloc (.cells #[.int .u8 0, .int .u8 0, .int .u8 0, .int .u8 0, .int .u8 0, .int .u8 0, .int .u8 0, .int .u8 0, .int .u8 0, .int .u8 0, .int .u8 0, .int .u8 0, .int .i64 0, .int .i64 0] 25))) := (Gro.refl _ _).alloc _
  clear hg2 HL HA
  have hne : ¬ 1 = w.heap.size := by have := HBB.out.2; omega
  have hne' : ¬ w.heap.size = 1 := by have := HBB.out.2; omega
  by_cases hok : okB T S
  · have HQ := Lib.hid (bar_any ⟨t0, t1, t2, t3, t4, t5⟩ ⟨f0, f1, f2, f3, f4, f5⟩ T S (w2.alloc (.cells #[.int .u8 t0, .int .u8 t1, .int .u8 t2, .int .u8 t3, .int .u8 t4, .int .u8 t5, .int .u8 f0, .int .u8 f1, .int .u8 f2, .int .u8 f3, .int .u8 f4, .int .u8 f5, .int .i64 T, .int .i64 S] 25)) hok)
    have hby := bytes_of (asks_mem (k := 132) (by decide) hok HTO.out HFR.out)
    have hal := asks_len 132 ⟨t0, t1, t2, t3, t4, t5⟩ ⟨f0, f1, f2, f3, f4, f5⟩ T S
    unfold barV at HQ
    simp only at HQ
    generalize hY : asksL 132 ⟨t0, t1, t2, t3, t4, t5⟩ ⟨f0, f1, f2, f3, f4, f5⟩ T S = Y at HQ hby hal
    have HY := Lib.hid hY
    clear hY
    go_wp2_with fail
    refine HQ.out.mono ?_
    rintro e wX ⟨v, rfl, hgX, hoX⟩
    obtain ⟨q, d, rfl, -, hlY, -⟩ := hoX.lie
    have HX := Lib.hid (HG0.out.trans hgX)
    have HXC := Lib.hid hgX
    have HQ2 := Lib.hid (HE.out wX (HW.out.trans HX.out) q d Y hal hlY hby)
    have HYB : Hid (P ↔ Y = bs) := ⟨fun h => HY.out ▸ (HD.out.1 h).2, fun h => HD.out.2 ⟨hok, HY.out ▸ h⟩⟩
    rw [hal] at HQ2 ⊢
    clear hoX hlY hby hal HQ HY HE hgX
    by_cases heq : Y = bs
    · rw [decide_eq_true heq] at HQ2
      have hP : P := HYB.out.2 heq
      clear heq HYB hok
      go_wp2_with fail
      refine HQ2.out.mono ?_
      rintro e w' ⟨rfl, rfl⟩
      have hsh := (HS.out _ (HW.out.trans HX.out)).c1
      have hzX := HZ.out _ HX.out
      have hf : ∀ j, wX.frozen? ⟨w.heap.size, j, none⟩ = false := fun j => frozen_of_row wX w.heap.size j _ _ hzX
      have HZX := Lib.hid hzX
      have z0 := cell_of_row wX w.heap.size 0 _ _ _ hzX
      have z1 := cell_of_row wX w.heap.size 1 _ _ _ hzX
      have z2 := cell_of_row wX w.heap.size 2 _ _ _ hzX
      have z3 := cell_of_row wX w.heap.size 3 _ _ _ hzX
      have z4 := cell_of_row wX w.heap.size 4 _ _ _ hzX
      have z5 := cell_of_row wX w.heap.size 5 _ _ _ hzX
      have z6 := cell_of_row wX w.heap.size 6 _ _ _ hzX
      have z7 := cell_of_row wX w.heap.size 7 _ _ _ hzX
      have z8 := cell_of_row wX w.heap.size 8 _ _ _ hzX
      have z9 := cell_of_row wX w.heap.size 9 _ _ _ hzX
      have z10 := cell_of_row wX w.heap.size 10 _ _ _ hzX
      have z11 := cell_of_row wX w.heap.size 11 _ _ _ hzX
      have z12 := cell_of_row wX w.heap.size 12 _ _ _ hzX
      have z13 := cell_of_row wX w.heap.size 13 _ _ _ hzX
      simp only [List.getElem?_toArray, List.getElem?_cons_zero, List.getElem?_cons_succ] at z0 z1 z2 z3 z4 z5 z6 z7 z8 z9 z10 z11 z12 z13
      clear hzX
      have hcX := HC.out _ HXC.out
      have c0 := cell_of_row wX w2.heap.size 0 _ _ _ hcX
      have c1 := cell_of_row wX w2.heap.size 1 _ _ _ hcX
      have c2 := cell_of_row wX w2.heap.size 2 _ _ _ hcX
      have c3 := cell_of_row wX w2.heap.size 3 _ _ _ hcX
      have c4 := cell_of_row wX w2.heap.size 4 _ _ _ hcX
      have c5 := cell_of_row wX w2.heap.size 5 _ _ _ hcX
      have c6 := cell_of_row wX w2.heap.size 6 _ _ _ hcX
      have c7 := cell_of_row wX w2.heap.size 7 _ _ _ hcX
      have c8 := cell_of_row wX w2.heap.size 8 _ _ _ hcX
      have c9 := cell_of_row wX w2.heap.size 9 _ _ _ hcX
      have c10 := cell_of_row wX w2.heap.size 10 _ _ _ hcX
      have c11 := cell_of_row wX w2.heap.size 11 _ _ _ hcX
      have c12 := cell_of_row wX w2.heap.size 12 _ _ _ hcX
      have c13 := cell_of_row wX w2.heap.size 13 _ _ _ hcX
      simp only [List.getElem?_toArray, List.getElem?_cons_zero, List.getElem?_cons_succ] at c0 c1 c2 c3 c4 c5 c6 c7 c8 c9 c10 c11 c12 c13
      clear hcX HQ2 hsh
      go_wp2_with fail
      clear hf c0 c1 c2 c3 c4 c5 c6 c7 c8 c9 c10 c11 c12 c13
      refine gen_world (fun W' => Gro (some w.heap.size) wX W' ∧ W'.heap[w.heap.size]? = some (.cells #[.int .u8 t0, .int .u8 t1, .int .u8 t2, .int .u8 t3, .int .u8 t4, .int .u8 t5, .int .u8 f0, .int .u8 f1, .int .u8 f2, .int .u8 f3, .int .u8 f4, .int .u8 f5, .int .i64 T, .int .i64 S] 25 (0, 0))) ⟨?_, ?_⟩ ?_
      · repeat (first | with_reducible exact Gro.refl _ _ | with_reducible refine Gro.drew ?_ | with_reducible refine Gro.setCell ?_ _ _)
      · (try rw [heap_of_drew])
        with_reducible refine store14 _ _ _ (.int .u8 0) (.int .u8 0) (.int .u8 0) (.int .u8 0) (.int .u8 0) (.int .u8 0) (.int .u8 0) (.int .u8 0) (.int .u8 0) (.int .u8 0) (.int .u8 0) (.int .u8 0) (.int .i64 0) (.int .i64 0)  _ _ _ _ _ _ _ _ _ _ _ _ _ _ HZX.out
      clear z0 z1 z2 z3 z4 z5 z6 z7 z8 z9 z10 z11 z12 z13
      rintro w6 ⟨hg6, hz6⟩
      have d0 := cell_of_row w6 w.heap.size 0 _ _ _ hz6
      have d1 := cell_of_row w6 w.heap.size 1 _ _ _ hz6
      have d2 := cell_of_row w6 w.heap.size 2 _ _ _ hz6
      have d3 := cell_of_row w6 w.heap.size 3 _ _ _ hz6
      have d4 := cell_of_row w6 w.heap.size 4 _ _ _ hz6
      have d5 := cell_of_row w6 w.heap.size 5 _ _ _ hz6
      have d6 := cell_of_row w6 w.heap.size 6 _ _ _ hz6
      have d7 := cell_of_row w6 w.heap.size 7 _ _ _ hz6
      have d8 := cell_of_row w6 w.heap.size 8 _ _ _ hz6
      have d9 := cell_of_row w6 w.heap.size 9 _ _ _ hz6
      have d10 := cell_of_row w6 w.heap.size 10 _ _ _ hz6
      have d11 := cell_of_row w6 w.heap.size 11 _ _ _ hz6
      have d12 := cell_of_row w6 w.heap.size 12 _ _ _ hz6
      have d13 := cell_of_row w6 w.heap.size 13 _ _ _ hz6
      simp only [List.getElem?_toArray, List.getElem?_cons_zero, List.getElem?_cons_succ] at d0 d1 d2 d3 d4 d5 d6 d7 d8 d9 d10 d11 d12 d13
      have HG6 := Lib.hid hg6
      clear hg6 hz6
      (try go_wp2_with fail)
      (try simp only [Exit.inBlock, Exit.then])
      refine bodyPost_ret (by simp [results, Tryd.results21, go_sem, d0, d1, d2, d3, d4, d5, d6, d7, d8, d9, d10, d11, d12, d13]; try rfl) rfl ?_
      refine ⟨fun _ => rfl, fun h => absurd hP h, ?_⟩
      have h1 := HW.out.trans HX.out
      have h6 := HG6.out
      exact ⟨h6.os.trans h1.os, h6.output.trans h1.output, Nat.le_trans h1.size h6.size, fun k hk _ => (h6.block k (Nat.lt_of_lt_of_le hk h1.size) (by simp; omega)).trans (h1.block k hk (by simp))⟩
    · rw [decide_eq_false heq] at HQ2
      have hnP : ¬ P := fun h => heq (HYB.out.1 h)
      clear heq HYB hok
      go_wp2_with fail
      refine HQ2.out.mono ?_
      rintro e w' ⟨rfl, rfl⟩
      have hsh := (HS.out _ (HW.out.trans HX.out)).c1
      have hzX := HZ.out _ HX.out
      have hf : ∀ j, wX.frozen? ⟨w.heap.size, j, none⟩ = false := fun j => frozen_of_row wX w.heap.size j _ _ hzX
      have HZX := Lib.hid hzX
      have z0 := cell_of_row wX w.heap.size 0 _ _ _ hzX
      have z1 := cell_of_row wX w.heap.size 1 _ _ _ hzX
      have z2 := cell_of_row wX w.heap.size 2 _ _ _ hzX
      have z3 := cell_of_row wX w.heap.size 3 _ _ _ hzX
      have z4 := cell_of_row wX w.heap.size 4 _ _ _ hzX
      have z5 := cell_of_row wX w.heap.size 5 _ _ _ hzX
      have z6 := cell_of_row wX w.heap.size 6 _ _ _ hzX
      have z7 := cell_of_row wX w.heap.size 7 _ _ _ hzX
      have z8 := cell_of_row wX w.heap.size 8 _ _ _ hzX
      have z9 := cell_of_row wX w.heap.size 9 _ _ _ hzX
      have z10 := cell_of_row wX w.heap.size 10 _ _ _ hzX
      have z11 := cell_of_row wX w.heap.size 11 _ _ _ hzX
      have z12 := cell_of_row wX w.heap.size 12 _ _ _ hzX
      have z13 := cell_of_row wX w.heap.size 13 _ _ _ hzX
      simp only [List.getElem?_toArray, List.getElem?_cons_zero, List.getElem?_cons_succ] at z0 z1 z2 z3 z4 z5 z6 z7 z8 z9 z10 z11 z12 z13
      clear hzX
      clear HQ2
      go_wp2_with fail
      go_region
      clear hf hsh
      refine gen_world (fun W' => Gro (some w.heap.size) wX W' ∧ W'.heap[w.heap.size]? = some (.cells #[.int .u8 0, .int .u8 0, .int .u8 0, .int .u8 0, .int .u8 0, .int .u8 0, .int .u8 0, .int .u8 0, .int .u8 0, .int .u8 0, .int .u8 0, .int .u8 0, .int .i64 0, .int .i64 0] 25 (0, 0))) ⟨?_, ?_⟩ ?_
      · repeat (first | with_reducible exact Gro.refl _ _ | with_reducible refine Gro.drew ?_ | with_reducible refine Gro.setCell ?_ _ _)
      · (try rw [heap_of_drew])
        with_reducible refine store14 _ _ _ (.int .u8 0) (.int .u8 0) (.int .u8 0) (.int .u8 0) (.int .u8 0) (.int .u8 0) (.int .u8 0) (.int .u8 0) (.int .u8 0) (.int .u8 0) (.int .u8 0) (.int .u8 0) (.int .i64 0) (.int .i64 0)  _ _ _ _ _ _ _ _ _ _ _ _ _ _ HZX.out
      clear z0 z1 z2 z3 z4 z5 z6 z7 z8 z9 z10 z11 z12 z13
      rintro w6 ⟨hg6, hz6⟩
      have d0 := cell_of_row w6 w.heap.size 0 _ _ _ hz6
      have d1 := cell_of_row w6 w.heap.size 1 _ _ _ hz6
      have d2 := cell_of_row w6 w.heap.size 2 _ _ _ hz6
      have d3 := cell_of_row w6 w.heap.size 3 _ _ _ hz6
      have d4 := cell_of_row w6 w.heap.size 4 _ _ _ hz6
      have d5 := cell_of_row w6 w.heap.size 5 _ _ _ hz6
      have d6 := cell_of_row w6 w.heap.size 6 _ _ _ hz6
      have d7 := cell_of_row w6 w.heap.size 7 _ _ _ hz6
      have d8 := cell_of_row w6 w.heap.size 8 _ _ _ hz6
      have d9 := cell_of_row w6 w.heap.size 9 _ _ _ hz6
      have d10 := cell_of_row w6 w.heap.size 10 _ _ _ hz6
      have d11 := cell_of_row w6 w.heap.size 11 _ _ _ hz6
      have d12 := cell_of_row w6 w.heap.size 12 _ _ _ hz6
      have d13 := cell_of_row w6 w.heap.size 13 _ _ _ hz6
      simp only [List.getElem?_toArray, List.getElem?_cons_zero, List.getElem?_cons_succ] at d0 d1 d2 d3 d4 d5 d6 d7 d8 d9 d10 d11 d12 d13
      have HG6 := Lib.hid hg6
      clear hg6 hz6
      (try go_wp2_with fail)
      (try simp only [Exit.inBlock, Exit.then])
      refine bodyPost_ret (by simp [results, Tryd.results21, go_sem, d0, d1, d2, d3, d4, d5, d6, d7, d8, d9, d10, d11, d12, d13]; try rfl) rfl ?_
      refine ⟨fun h => absurd h hnP, fun _ => rfl, ?_⟩
      have h1 := HW.out.trans HX.out
      have h6 := HG6.out
      exact ⟨h6.os.trans h1.os, h6.output.trans h1.output, Nat.le_trans h1.size h6.size, fun k hk _ => (h6.block k (Nat.lt_of_lt_of_le hk h1.size) (by simp; omega)).trans (h1.block k hk (by simp))⟩
  · have HQ := Lib.hid (bar_bad ⟨t0, t1, t2, t3, t4, t5⟩ ⟨f0, f1, f2, f3, f4, f5⟩ T S _ (w2.alloc (.cells #[.int .u8 t0, .int .u8 t1, .int .u8 t2, .int .u8 t3, .int .u8 t4, .int .u8 t5, .int .u8 f0, .int .u8 f1, .int .u8 f2, .int .u8 f3, .int .u8 f4, .int .u8 f5, .int .i64 T, .int .i64 S] 25)) hok (HS.out _ (HW.out.trans HG0.out)).c2 (by have := HBB.out.2; have := HW.out.size; have := HG0.out.size; omega))
    have hnP : ¬ P := fun h => hok (HD.out.1 h).1
    unfold barV at HQ
    simp only at HQ
    go_wp2_with fail
    refine HQ.out.mono ?_
    rintro e wX ⟨rfl, hgX⟩
    have HX := Lib.hid (HG0.out.trans hgX)
    have hsh := (HS.out _ (HW.out.trans HX.out)).c1
    have hzX := HZ.out _ HX.out
    have hf : ∀ j, wX.frozen? ⟨w.heap.size, j, none⟩ = false := fun j => frozen_of_row wX w.heap.size j _ _ hzX
    have HZX := Lib.hid hzX
    have z0 := cell_of_row wX w.heap.size 0 _ _ _ hzX
    have z1 := cell_of_row wX w.heap.size 1 _ _ _ hzX
    have z2 := cell_of_row wX w.heap.size 2 _ _ _ hzX
    have z3 := cell_of_row wX w.heap.size 3 _ _ _ hzX
    have z4 := cell_of_row wX w.heap.size 4 _ _ _ hzX
    have z5 := cell_of_row wX w.heap.size 5 _ _ _ hzX
    have z6 := cell_of_row wX w.heap.size 6 _ _ _ hzX
    have z7 := cell_of_row wX w.heap.size 7 _ _ _ hzX
    have z8 := cell_of_row wX w.heap.size 8 _ _ _ hzX
    have z9 := cell_of_row wX w.heap.size 9 _ _ _ hzX
    have z10 := cell_of_row wX w.heap.size 10 _ _ _ hzX
    have z11 := cell_of_row wX w.heap.size 11 _ _ _ hzX
    have z12 := cell_of_row wX w.heap.size 12 _ _ _ hzX
    have z13 := cell_of_row wX w.heap.size 13 _ _ _ hzX
    simp only [List.getElem?_toArray, List.getElem?_cons_zero, List.getElem?_cons_succ] at z0 z1 z2 z3 z4 z5 z6 z7 z8 z9 z10 z11 z12 z13
    clear hzX
    clear HQ hgX
    go_wp2_with fail
    go_region
    clear hf hsh
    refine gen_world (fun W' => Gro (some w.heap.size) wX W' ∧ W'.heap[w.heap.size]? = some (.cells #[.int .u8 0, .int .u8 0, .int .u8 0, .int .u8 0, .int .u8 0, .int .u8 0, .int .u8 0, .int .u8 0, .int .u8 0, .int .u8 0, .int .u8 0, .int .u8 0, .int .i64 0, .int .i64 0] 25 (0, 0))) ⟨?_, ?_⟩ ?_
    · repeat (first | with_reducible exact Gro.refl _ _ | with_reducible refine Gro.drew ?_ | with_reducible refine Gro.setCell ?_ _ _)
    · (try rw [heap_of_drew])
      with_reducible refine store14 _ _ _ (.int .u8 0) (.int .u8 0) (.int .u8 0) (.int .u8 0) (.int .u8 0) (.int .u8 0) (.int .u8 0) (.int .u8 0) (.int .u8 0) (.int .u8 0) (.int .u8 0) (.int .u8 0) (.int .i64 0) (.int .i64 0)  _ _ _ _ _ _ _ _ _ _ _ _ _ _ HZX.out
    clear z0 z1 z2 z3 z4 z5 z6 z7 z8 z9 z10 z11 z12 z13
    rintro w6 ⟨hg6, hz6⟩
    have d0 := cell_of_row w6 w.heap.size 0 _ _ _ hz6
    have d1 := cell_of_row w6 w.heap.size 1 _ _ _ hz6
    have d2 := cell_of_row w6 w.heap.size 2 _ _ _ hz6
    have d3 := cell_of_row w6 w.heap.size 3 _ _ _ hz6
    have d4 := cell_of_row w6 w.heap.size 4 _ _ _ hz6
    have d5 := cell_of_row w6 w.heap.size 5 _ _ _ hz6
    have d6 := cell_of_row w6 w.heap.size 6 _ _ _ hz6
    have d7 := cell_of_row w6 w.heap.size 7 _ _ _ hz6
    have d8 := cell_of_row w6 w.heap.size 8 _ _ _ hz6
    have d9 := cell_of_row w6 w.heap.size 9 _ _ _ hz6
    have d10 := cell_of_row w6 w.heap.size 10 _ _ _ hz6
    have d11 := cell_of_row w6 w.heap.size 11 _ _ _ hz6
    have d12 := cell_of_row w6 w.heap.size 12 _ _ _ hz6
    have d13 := cell_of_row w6 w.heap.size 13 _ _ _ hz6
    simp only [List.getElem?_toArray, List.getElem?_cons_zero, List.getElem?_cons_succ] at d0 d1 d2 d3 d4 d5 d6 d7 d8 d9 d10 d11 d12 d13
    have HG6 := Lib.hid hg6
    clear hg6 hz6
    (try go_wp2_with fail)
    (try simp only [Exit.inBlock, Exit.then])
    refine bodyPost_ret (by simp [results, Tryd.results21, go_sem, d0, d1, d2, d3, d4, d5, d6, d7, d8, d9, d10, d11, d12, d13]; try rfl) rfl ?_
    refine ⟨fun h => absurd h hnP, fun _ => rfl, ?_⟩
    have h1 := HW.out.trans HX.out
    have h6 := HG6.out
    exact ⟨h6.os.trans h1.os, h6.output.trans h1.output, Nat.le_trans h1.size h6.size, fun k hk _ => (h6.block k (Nat.lt_of_lt_of_le hk h1.size) (by simp; omega)).trans (h1.block k hk (by simp))⟩
end Go.Proofs.YtadcpoglkmklhaaDoor
