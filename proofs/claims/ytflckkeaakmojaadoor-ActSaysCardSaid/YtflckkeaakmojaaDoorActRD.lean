/-
  THE WALK OF act.ReadDel, out of ANY bytes. Conditions: the bytes lie where the slice says; four sentinels' own.
-/
import Derived.Test.YtflckkeaakmojaaDoorActRA
namespace Go.Proofs.YtflckkeaakmojaaDoor
open Go.RowKit

theorem del_run (w : World) : (Instr.alloc 36 true (.tuple #[])).run Tryd.prog w = .ok (.pointer (some ⟨w.heap.size, 0, none⟩)) (w.alloc (.cells #[.int .u8 0, .int .u8 0, .int .u8 0, .int .u8 0, .int .u8 0, .int .u8 0, .int .u8 0, .int .u8 0, .int .u8 0, .int .u8 0, .int .u8 0, .int .u8 0, .int .u8 0, .int .u8 0, .int .u8 0, .int .u8 0, .int .u8 0, .int .u8 0, .bool false, .int .i64 0, .int .i64 0] 36)) := by go_simp
theorem res_del {tmps : Array Value} {w : World} {F : Array Value} {u : Value} {g : Nat} (h2 : tmps.getD 2 undef = .pointer (some ⟨g, 0, none⟩)) (h3 : tmps.getD 3 undef = u) (hb : w.heap[g]? = some (.cells F 36 (0, 0))) (hi : (Tryd.prog.info? 36).map (·.size) = some F.size) :
    (results Tryd.f16 tmps).run Tryd.prog w = .ok (.tuple #[.agg F, u]) w := by
  have hl : (loadVar 36 ⟨g, 0, none⟩).run Tryd.prog w = .ok (.agg F) w := by
    have h := run_loadVar_list (P := Tryd.prog) w ⟨g, 0, none⟩ 36 F.toList _ (fun j v hv => by
      rw [Addr.add_mid, Nat.zero_add, cell_of_row w g j F _ (0, 0) hb]
      simpa using hv) Tryd.underlying36 rfl (by simpa using hi)
    simpa using h
  unfold results
  rw [Tryd.results16]
  rw [Array.getD_eq_getD_getElem?] at h2 h3
  simp [h2, h3, hl, asAddr]
/-- The bit that says whose it is. -/
def mineOf (bs : List Int) : Bool := decide (0 < bits .and .i64 (num2 bs 26) 2048)
/-- What bytes are as a Del. -/
def isDel (bs : List Int) : Prop := okD (num2 bs 26 / 4096) (num2 bs 28) ∧ delL (ad6 bs 4) (ad6 bs 10) (ad6 bs 16) (mineOf bs) (num2 bs 26 / 4096) (num2 bs 28) = bs
theorem long_del (p : Option Addr) (cap : Nat) (bs : List Int) (B : Nat) (A : Nat → Addr) (w : World) (hs : Four B w A) (h : Lie w p bs) (hb : Bytes bs) (w' : World) (g : Nat) (k : Gro none w w') (hB : B ≤ w.heap.size) (hg : w'.heap[g]? = some (.cells #[.int .u8 2] 5 (0, 0))) :
    Calls Tryd.prog 26 #[.slice p bs.length cap, .int .i64 30, .slice (some ⟨g, 0, none⟩) 1 1] w' fun e w'' => e = .returned (errV A (longA bs 30 (kDel bs))) ∧ w' = w'' :=
  (long_any p cap bs 30 _ _ (bs.getD 25 0 = 2) B A w' (hs.far fun i hi => k.block i (by omega) (by simp)) (by decide) (h.gro k (by simp)) (fun _ => index_del _ (hb 25)) (fun _ => index_any g 0 1 1 [2] _ w' rfl (fun i hi => by
    rw [cell_of_row w' g (0 + i) _ _ _ hg]
    obtain rfl : i = 0 := by omega
    rfl))).mono fun e w'' ⟨he, hw⟩ => ⟨by rw [he, longA_iff (K := (bs.getD 0 0 = 208 ∧ bs.getD 24 0 = 3 ∧ bs.getD 25 0 = 2)) (K' := kDel bs) Iff.rfl], hw⟩
theorem del_mem {a b c : Ad} {mine : Bool} {tid reason : Int} (h : okD tid reason) (ha : ∀ x ∈ adL a, 0 ≤ x ∧ x < 256) (hb : ∀ x ∈ adL b, 0 ≤ x ∧ x < 256) (hc : ∀ x ∈ adL c, 0 ≤ x ∧ x < 256) : ∀ x ∈ delL a b c mine tid reason, 0 ≤ x ∧ x < 256 := by
  obtain ⟨⟨h1, h1'⟩, h2, h2'⟩ := h
  intro x hx
  simp only [delL, List.mem_append] at hx
  rcases hx with (hx | hx) | hx
  · exact front_mem (by decide) ha hb hc x hx
  · cases mine
    · exact two_bytes (by simp; omega) (by simp; omega) x hx
    · exact two_bytes (by simp; omega) (by simp; omega) x hx
  · exact two_bytes (by omega) (by omega) x hx

set_option maxHeartbeats 8000000 in
set_option maxRecDepth 100000 in
theorem readDel_mine (b o cap : Nat) (bs : List Int) (B : Nat) (A : Nat → Addr) (w : World) (hs : Four B w A) (hB : B ≤ w.heap.size) (hcap : bs.length ≤ cap) (h : Lie w (some ⟨b, o, none⟩) bs) (hb : Bytes bs) (hr : longA bs 30 (kDel bs) = 0) (hy : mineOf bs = true) :
    Calls Tryd.prog 16 #[.slice (some ⟨b, o, none⟩) bs.length cap] w fun e w' => (isDel bs → e = .returned (.tuple #[delV (ad6 bs 4) (ad6 bs 10) (ad6 bs 16) (mineOf bs) (num2 bs 26 / 4096) (num2 bs 28), .nilIface])) ∧ (¬ isDel bs → e = .returned (.tuple #[delV adZ adZ adZ false 0 0, errV A 2])) ∧ Gro none w w' := by
  have HL := Lib.hid (fun w' g k hg => long_del (some ⟨b, o, none⟩) cap bs B A w hs h hb w' g k hB hg)
  rw [hr] at HL
  obtain ⟨hlen, -⟩ := longA_zero hr (by decide)
  have HAD := Lib.hid (fun w' (k : Gro none w w') => addrs_any b o cap bs w' (by omega) hcap (h.gro k (by simp)))
  have HE := Lib.hid (fun w' (k : Gro none w w') (q : Option Addr) (d : Nat) (ys : List Int) (hl : ys.length = 30) (hy : Lie w' q ys) (by_ : Bytes ys) => equal_any q (some ⟨b, o, none⟩) d cap ys bs w' hy (h.gro k (by simp)) (by omega) (by omega) by_ hb)
  have HNUM : Hid (∀ w', Gro none w w' → ∀ i, i + 2 ≤ 30 → ∀ n c, 2 ≤ n → Calls Tryd.prog 28 #[.slice (some ⟨b, o + i, none⟩) n c] w' fun e w'' => e = .returned (.int .i64 (num2 bs i)) ∧ Gro none w' w'') := fun w' k i hi n c hn => (number_at2 b (o + i) n c (bs.getD i 0) (bs.getD (i + 1) 0) w' hn
    (by obtain ⟨b', o', e, hc⟩ := h.gro k (by simp) i (by omega); cases e; exact hc) (by obtain ⟨b', o', e, hc⟩ := h.gro k (by simp) (i + 1) (by omega); cases e; exact hc) (hb i) (hb (i + 1))).mono fun e w'' ⟨he, m, hm⟩ => ⟨he, hm ▸ (Gro.refl _ _).drewN m⟩
  have HN26 := Lib.hid (fun w' k n c hn => HNUM.out w' k 26 (by decide) n c hn)
  have HN28 := Lib.hid (fun w' k n c hn => HNUM.out w' k 28 (by decide) n c hn)
  have HS := Lib.hid (fun w' (k : Gro none w w') => (show Four B w' A from hs.far fun i hi => k.block i (by omega) (by simp)))
  have hP : isDel bs ↔ okD (num2 bs 26 / 4096) (num2 bs 28) ∧ delL (ad6 bs 4) (ad6 bs 10) (ad6 bs 16) true (num2 bs 26 / 4096) (num2 bs 28) = bs := by
    unfold isDel
    rw [hy]
  have hmb : 0 < bits .and .i64 (num2 bs 26) 2048 := by
    unfold mineOf at hy
    exact of_decide_eq_true hy
  rw [hy]
  generalize isDel bs = P at *
  obtain ⟨a26, z26⟩ : 0 ≤ num2 bs 26 ∧ num2 bs 26 < 65536 := by have := hb 26; have := hb (26 + 1); unfold num2; omega
  obtain ⟨a28, z28⟩ : 0 ≤ num2 bs 28 ∧ num2 bs 28 < 65536 := by have := hb 28; have := hb (28 + 1); unfold num2; omega
  have HBA : Hid (∀ x ∈ adL (ad6 bs 4), 0 ≤ x ∧ x < 256) := fun x hx => by simp [adL, ad6] at hx; rcases hx with rfl | rfl | rfl | rfl | rfl | rfl <;> exact hb _
  have HBB : Hid (∀ x ∈ adL (ad6 bs 10), 0 ≤ x ∧ x < 256) := fun x hx => by simp [adL, ad6] at hx; rcases hx with rfl | rfl | rfl | rfl | rfl | rfl <;> exact hb _
  have HBC : Hid (∀ x ∈ adL (ad6 bs 16), 0 ≤ x ∧ x < 256) := fun x hx => by simp [adL, ad6] at hx; rcases hx with rfl | rfl | rfl | rfl | rfl | rfl <;> exact hb _
  clear HNUM hy
  generalize num2 bs 26 = m26 at *
  generalize num2 bs 28 = m28 at *
  obtain ⟨TT, hTT⟩ : ∃ M, M = m26 / 4096 := ⟨_, rfl⟩
  rw [← hTT] at hP ⊢
  have e2 : m26.tdiv 4096 = TT := (Int.tdiv_eq_ediv_of_nonneg (by omega)).trans hTT.symm
  have wT : IntKind.i64.wrap TT = TT := by simp [IntKind.wrap, IntKind.bits, IntKind.signed]; omega
  obtain ⟨MB, hMB⟩ : ∃ M, bits .and .i64 m26 2048 = M := ⟨_, rfl⟩
  rw [hMB] at hmb
  have hdm : decide (0 < MB) = true := decide_eq_true hmb
  have HP := Lib.hid hP
  have HADR : Hid (∀ w', Gro none w w' → Calls Tryd.prog 27 #[.slice (some ⟨b, o, none⟩) 30 cap] w' fun e w'' => e = .returned (.tuple #[adV (ad6 bs 4), adV (ad6 bs 10), adV (ad6 bs 16)]) ∧ Gro none w' w'') := hlen ▸ HAD.out
  clear hP hTT HAD hr
  generalize ad6 bs 4 = ta at *
  generalize ad6 bs 10 = fr at *
  generalize ad6 bs 16 = sa at *
  obtain ⟨t0, t1, t2, t3, t4, t5⟩ := ta
  obtain ⟨f0, f1, f2, f3, f4, f5⟩ := fr
  obtain ⟨s0, s1, s2, s3, s4, s5⟩ := sa
  rw [hlen] at HL hcap ⊢
  have i30 : (30 : Int) ≤ (cap : Int) := by omega
  have j30 : 30 ≤ cap := hcap
  have n26 : ¬ cap = 26 := by omega
  have n28 : ¬ cap = 28 := by omega
  have hne : 1 < w.heap.size := by have := hs.big; omega
  have HNE := Lib.hid hne
  have HBW := Lib.hid hB
  clear hcap hs h hb hne hB
  unfold delV adZ at *
  unfold adV at HADR
  simp only at HADR ⊢
  go_enter Tryd.func16, Tryd.ntmps16
  go_wp2_with fail
  have hg1 : Gro none w ((w.alloc (.cells #[.int .u8 0, .int .u8 0, .int .u8 0, .int .u8 0, .int .u8 0, .int .u8 0, .int .u8 0, .int .u8 0, .int .u8 0, .int .u8 0, .int .u8 0, .int .u8 0, .int .u8 0, .int .u8 0, .int .u8 0, .int .u8 0, .int .u8 0, .int .u8 0, .bool false, .int .i64 0, .int .i64 0] 36)).alloc (.cells #[.int .u8 2] 5)) := ((Gro.refl _ _).alloc _).alloc _
  have hz : ∀ w', Gro none ((w.alloc (.cells #[.int .u8 0, .int .u8 0, .int .u8 0, .int .u8 0, .int .u8 0, .int .u8 0, .int .u8 0, .int .u8 0, .int .u8 0, .int .u8 0, .int .u8 0, .int .u8 0, .int .u8 0, .int .u8 0, .int .u8 0, .int .u8 0, .int .u8 0, .int .u8 0, .bool false, .int .i64 0, .int .i64 0] 36)).alloc (.cells #[.int .u8 2] 5)) w' → w'.heap[w.heap.size]? = some (.cells #[.int .u8 0, .int .u8 0, .int .u8 0, .int .u8 0, .int .u8 0, .int .u8 0, .int .u8 0, .int .u8 0, .int .u8 0, .int .u8 0, .int .u8 0, .int .u8 0, .int .u8 0, .int .u8 0, .int .u8 0, .int .u8 0, .int .u8 0, .int .u8 0, .bool false, .int .i64 0, .int .i64 0] 36 (0, 0)) := fun w' k => (k.block w.heap.size (by simp; omega) (by simp)).trans ((Below.heap_alloc _ _ _ (by simp)).trans (heap_alloc_new w _))
  have hwh : ((w.alloc (.cells #[.int .u8 0, .int .u8 0, .int .u8 0, .int .u8 0, .int .u8 0, .int .u8 0, .int .u8 0, .int .u8 0, .int .u8 0, .int .u8 0, .int .u8 0, .int .u8 0, .int .u8 0, .int .u8 0, .int .u8 0, .int .u8 0, .int .u8 0, .int .u8 0, .bool false, .int .i64 0, .int .i64 0] 36)).alloc (.cells #[.int .u8 2] 5)).heap[w.heap.size + 1]? = some (.cells #[.int .u8 2] 5 (0, 0)) := by
    have h := heap_alloc_new (w.alloc (.cells #[.int .u8 0, .int .u8 0, .int .u8 0, .int .u8 0, .int .u8 0, .int .u8 0, .int .u8 0, .int .u8 0, .int .u8 0, .int .u8 0, .int .u8 0, .int .u8 0, .int .u8 0, .int .u8 0, .int .u8 0, .int .u8 0, .int .u8 0, .int .u8 0, .bool false, .int .i64 0, .int .i64 0] 36)) (.cells #[.int .u8 2] 5)
    simp only [show ∀ (w : World) (o : Obj), (w.alloc o).heap.size = w.heap.size + 1 from fun w o => by simp] at h
    exact h
  have hws : w.heap.size < ((w.alloc (.cells #[.int .u8 0, .int .u8 0, .int .u8 0, .int .u8 0, .int .u8 0, .int .u8 0, .int .u8 0, .int .u8 0, .int .u8 0, .int .u8 0, .int .u8 0, .int .u8 0, .int .u8 0, .int .u8 0, .int .u8 0, .int .u8 0, .int .u8 0, .int .u8 0, .bool false, .int .i64 0, .int .i64 0] 36)).alloc (.cells #[.int .u8 2] 5)).heap.size := by simp; omega
  generalize (w.alloc (.cells #[.int .u8 0, .int .u8 0, .int .u8 0, .int .u8 0, .int .u8 0, .int .u8 0, .int .u8 0, .int .u8 0, .int .u8 0, .int .u8 0, .int .u8 0, .int .u8 0, .int .u8 0, .int .u8 0, .int .u8 0, .int .u8 0, .int .u8 0, .int .u8 0, .bool false, .int .i64 0, .int .i64 0] 36)).alloc (.cells #[.int .u8 2] 5) = w2 at *
  refine (HL.out w2 _ hg1 hwh).mono ?_
  rintro e w' ⟨rfl, rfl⟩
  simp only [errV]
  have HG1 := Lib.hid hg1
  have HZ := Lib.hid hz
  have HG := Lib.hid (Gro.refl none w2)
  clear hg1 hz hwh HL
  go_wp2_with fail
  refine (HN26.out _ HG1.out _ _ (by decide)).mono ?_
  rintro e w3 ⟨rfl, hg⟩
  have HG := Lib.hid (HG.out.trans hg)
  clear hg HN26
  go_wp2_with fail
  refine (HN28.out _ (HG1.out.trans HG.out) _ _ (by decide)).mono ?_
  rintro e w4 ⟨rfl, hg⟩
  have HG := Lib.hid (HG.out.trans hg)
  clear hg HN28
  go_wp2_with (refine alloc_row rfl 36 rfl 6 rfl #[.int .u8 0, .int .u8 0, .int .u8 0, .int .u8 0, .int .u8 0, .int .u8 0, .int .u8 0, .int .u8 0, .int .u8 0, .int .u8 0, .int .u8 0, .int .u8 0, .int .u8 0, .int .u8 0, .int .u8 0, .int .u8 0, .int .u8 0, .int .u8 0, .bool false, .int .i64 0, .int .i64 0] 36 del_run rfl (.tmp 27) rfl (by first | (simp; done) | (simp [Act.put]; done)) #[.int .u8 0, .int .u8 0, .int .u8 0, .int .u8 0, .int .u8 0, .int .u8 0, .int .u8 0, .int .u8 0, .int .u8 0, .int .u8 0, .int .u8 0, .int .u8 0, .int .u8 0, .int .u8 0, .int .u8 0, .int .u8 0, .int .u8 0, .int .u8 0, .bool true, .int .i64 TT, .int .i64 m28] (by rfl) rfl (by kernel_rfl) (by simp [Value.oneCell']) ?_)
  intro w5 hg hr
  have hge : w2.heap.size ≤ w4.heap.size := HG.out.size
  generalize w4.heap.size = g at *
  have HROW := Lib.hid hr
  have HG := Lib.hid (HG.out.trans hg)
  clear hg hr
  go_wp2_with fail
  refine (HADR.out w5 (HG1.out.trans HG.out)).mono ?_
  rintro e w6 ⟨rfl, hg⟩
  have HROW := Lib.hid ((hg.block g (blk_lt HROW.out) (by simp)).trans HROW.out)
  have HG := Lib.hid (HG.out.trans hg)
  clear hg HADR
  go_wp2_with (refine store_part rfl 25 _ _ rfl g 0 rfl #[.int .u8 t0, .int .u8 t1, .int .u8 t2, .int .u8 t3, .int .u8 t4, .int .u8 t5] rfl #[.int .u8 0, .int .u8 0, .int .u8 0, .int .u8 0, .int .u8 0, .int .u8 0, .int .u8 0, .int .u8 0, .int .u8 0, .int .u8 0, .int .u8 0, .int .u8 0, .int .u8 0, .int .u8 0, .int .u8 0, .int .u8 0, .int .u8 0, .int .u8 0, .bool true, .int .i64 TT, .int .i64 m28] 36 HROW.out (by simp) (by kernel_rfl) (by simp [Value.oneCell']) #[.int .u8 t0, .int .u8 t1, .int .u8 t2, .int .u8 t3, .int .u8 t4, .int .u8 t5, .int .u8 0, .int .u8 0, .int .u8 0, .int .u8 0, .int .u8 0, .int .u8 0, .int .u8 0, .int .u8 0, .int .u8 0, .int .u8 0, .int .u8 0, .int .u8 0, .bool true, .int .i64 TT, .int .i64 m28] (by simp only [List.toList_toArray, setL, List.setIfInBounds_toArray, List.set_cons_zero, List.set_cons_succ, Nat.reduceAdd]) ?_)
  intro w7 hg hr
  have HROW := Lib.hid hr
  have HG := Lib.hid (HG.out.new_row hg hge)
  clear hg hr
  go_wp2_with (refine store_part rfl 25 _ _ rfl g 6 rfl #[.int .u8 f0, .int .u8 f1, .int .u8 f2, .int .u8 f3, .int .u8 f4, .int .u8 f5] rfl #[.int .u8 t0, .int .u8 t1, .int .u8 t2, .int .u8 t3, .int .u8 t4, .int .u8 t5, .int .u8 0, .int .u8 0, .int .u8 0, .int .u8 0, .int .u8 0, .int .u8 0, .int .u8 0, .int .u8 0, .int .u8 0, .int .u8 0, .int .u8 0, .int .u8 0, .bool true, .int .i64 TT, .int .i64 m28] 36 HROW.out (by simp) (by kernel_rfl) (by simp [Value.oneCell']) #[.int .u8 t0, .int .u8 t1, .int .u8 t2, .int .u8 t3, .int .u8 t4, .int .u8 t5, .int .u8 f0, .int .u8 f1, .int .u8 f2, .int .u8 f3, .int .u8 f4, .int .u8 f5, .int .u8 0, .int .u8 0, .int .u8 0, .int .u8 0, .int .u8 0, .int .u8 0, .bool true, .int .i64 TT, .int .i64 m28] (by simp only [List.toList_toArray, setL, List.setIfInBounds_toArray, List.set_cons_zero, List.set_cons_succ, Nat.reduceAdd]) ?_)
  intro w8 hg hr
  have HROW := Lib.hid hr
  have HG := Lib.hid (HG.out.new_row hg hge)
  clear hg hr
  go_wp2_with (refine store_part rfl 25 _ _ rfl g 12 rfl #[.int .u8 s0, .int .u8 s1, .int .u8 s2, .int .u8 s3, .int .u8 s4, .int .u8 s5] rfl #[.int .u8 t0, .int .u8 t1, .int .u8 t2, .int .u8 t3, .int .u8 t4, .int .u8 t5, .int .u8 f0, .int .u8 f1, .int .u8 f2, .int .u8 f3, .int .u8 f4, .int .u8 f5, .int .u8 0, .int .u8 0, .int .u8 0, .int .u8 0, .int .u8 0, .int .u8 0, .bool true, .int .i64 TT, .int .i64 m28] 36 HROW.out (by simp) (by kernel_rfl) (by simp [Value.oneCell']) #[.int .u8 t0, .int .u8 t1, .int .u8 t2, .int .u8 t3, .int .u8 t4, .int .u8 t5, .int .u8 f0, .int .u8 f1, .int .u8 f2, .int .u8 f3, .int .u8 f4, .int .u8 f5, .int .u8 s0, .int .u8 s1, .int .u8 s2, .int .u8 s3, .int .u8 s4, .int .u8 s5, .bool true, .int .i64 TT, .int .i64 m28] (by simp only [List.toList_toArray, setL, List.setIfInBounds_toArray, List.set_cons_zero, List.set_cons_succ, Nat.reduceAdd]) ?_)
  intro w9 hg hr
  have HROW := Lib.hid hr
  have HG := Lib.hid (HG.out.new_row hg hge)
  clear hg hr
  go_wp2_with (refine load_row rfl _ _ rfl _ rfl _ _ HROW.out _ Tryd.underlying36 rfl (by kernel_rfl) ?_)
  by_cases hok : okD TT m28
  · have HQ := Lib.hid (del_any ⟨t0, t1, t2, t3, t4, t5⟩ ⟨f0, f1, f2, f3, f4, f5⟩ ⟨s0, s1, s2, s3, s4, s5⟩ true TT m28 w9 hok)
    have hal : (delL ⟨t0, t1, t2, t3, t4, t5⟩ ⟨f0, f1, f2, f3, f4, f5⟩ ⟨s0, s1, s2, s3, s4, s5⟩ true TT m28).length = 30 := by simp [delL, frontL, adL, twoL]
    have hby : Bytes (delL ⟨t0, t1, t2, t3, t4, t5⟩ ⟨f0, f1, f2, f3, f4, f5⟩ ⟨s0, s1, s2, s3, s4, s5⟩ true TT m28) := by
      intro i
      rcases Nat.lt_or_ge i 30 with hi | hi
      · have hm : (delL ⟨t0, t1, t2, t3, t4, t5⟩ ⟨f0, f1, f2, f3, f4, f5⟩ ⟨s0, s1, s2, s3, s4, s5⟩ true TT m28).getD i 0 ∈ delL ⟨t0, t1, t2, t3, t4, t5⟩ ⟨f0, f1, f2, f3, f4, f5⟩ ⟨s0, s1, s2, s3, s4, s5⟩ true TT m28 := by
          rw [List.getD_eq_getElem?_getD, List.getElem?_eq_getElem (by omega)]
          exact List.getElem_mem _
        exact del_mem hok HBA.out HBB.out HBC.out _ hm
      · rw [List.getD_eq_getElem?_getD, List.getElem?_eq_none (by omega)]
        exact ⟨by decide, by decide⟩
    unfold delV at HQ
    simp only at HQ
    generalize hY : delL ⟨t0, t1, t2, t3, t4, t5⟩ ⟨f0, f1, f2, f3, f4, f5⟩ ⟨s0, s1, s2, s3, s4, s5⟩ true TT m28 = Y at HQ hal hby
    have HY := Lib.hid hY
    clear hY
    go_wp2_with fail
    refine HQ.out.mono ?_
    rintro e wX ⟨v, rfl, hgX, hoX⟩
    obtain ⟨q, d, rfl, -, hlY, -⟩ := hoX.lie
    have HROW := Lib.hid ((hgX.block g (blk_lt HROW.out) (by simp)).trans HROW.out)
    have HG := Lib.hid (HG.out.trans hgX)
    have HQ2 := Lib.hid (HE.out wX (HG1.out.trans HG.out) q d Y hal hlY hby)
    have HYB : Hid (P ↔ Y = bs) := ⟨fun h => HY.out ▸ (HP.out.1 h).2, fun h => HP.out.2 ⟨hok, HY.out ▸ h⟩⟩
    rw [hal, hlen] at HQ2
    rw [hal]
    clear hoX hlY hby hal HQ HY HE hgX
    by_cases heq : Y = bs
    · rw [decide_eq_true heq] at HQ2
      have hPP : P := HYB.out.2 heq
      clear heq HYB hok
      go_wp2_with fail
      refine HQ2.out.mono ?_
      rintro e w' ⟨rfl, rfl⟩
      have hzX := HZ.out _ HG.out
      go_wp2_with (first | (refine load_row rfl _ _ rfl _ rfl _ _ HROW.out _ Tryd.underlying36 rfl (by kernel_rfl) ?_) | (refine store_row rfl 36 _ _ rfl w.heap.size rfl #[.int .u8 t0, .int .u8 t1, .int .u8 t2, .int .u8 t3, .int .u8 t4, .int .u8 t5, .int .u8 f0, .int .u8 f1, .int .u8 f2, .int .u8 f3, .int .u8 f4, .int .u8 f5, .int .u8 s0, .int .u8 s1, .int .u8 s2, .int .u8 s3, .int .u8 s4, .int .u8 s5, .bool true, .int .i64 TT, .int .i64 m28] (by rfl) #[.int .u8 0, .int .u8 0, .int .u8 0, .int .u8 0, .int .u8 0, .int .u8 0, .int .u8 0, .int .u8 0, .int .u8 0, .int .u8 0, .int .u8 0, .int .u8 0, .int .u8 0, .int .u8 0, .int .u8 0, .int .u8 0, .int .u8 0, .int .u8 0, .bool false, .int .i64 0, .int .i64 0] 36 hzX rfl (by kernel_rfl) (by simp [Value.oneCell']) ?_))
      intro w10 hg6 hr6
      have HF := Lib.hid ((HG1.out.trans HG.out).new_row hg6 (Nat.le_refl _))
      have HR6 := Lib.hid hr6
      clear hg6 hzX HQ2 hr6
      (try go_wp2_with fail)
      (try simp only [Exit.inBlock, Exit.then])
      refine bodyPost_ret (res_del rfl rfl HR6.out (by kernel_rfl)) rfl ?_
      exact ⟨fun _ => rfl, fun h => absurd hPP h, HF.out⟩
    · rw [decide_eq_false heq] at HQ2
      have hnP : ¬ P := fun h => heq (HYB.out.1 h)
      clear heq HYB hok
      go_wp2_with fail
      refine HQ2.out.mono ?_
      rintro e w' ⟨rfl, rfl⟩
      clear HQ2
      have HSH : Hid (wX.cell? ⟨1, 0, none⟩ = some (.iface 89 (.pointer (some (A 1))))) := (HS.out _ (HG1.out.trans HG.out)).c1
      have hzX := HZ.out _ HG.out
      have hgX := HG1.out.trans HG.out
      go_wp2_with fail
      refine wp_region_R (fun _ w' => Gro none w w' ∧ w'.heap[w.heap.size]? = some (.cells #[.int .u8 0, .int .u8 0, .int .u8 0, .int .u8 0, .int .u8 0, .int .u8 0, .int .u8 0, .int .u8 0, .int .u8 0, .int .u8 0, .int .u8 0, .int .u8 0, .int .u8 0, .int .u8 0, .int .u8 0, .int .u8 0, .int .u8 0, .int .u8 0, .bool false, .int .i64 0, .int .i64 0] 36 (0, 0)) ∧ w'.cell? ⟨1, 0, none⟩ = some (.iface 89 (.pointer (some (A 1))))) (by kernel_rfl) ⟨hgX.drew, hzX, HSH.out⟩ ?_
      clear hzX hgX
      refine takeR (i := 0) (x := 50) (v := .agg #[.int .u8 0, .int .u8 0, .int .u8 0, .int .u8 0, .int .u8 0, .int .u8 0, .int .u8 0, .int .u8 0, .int .u8 0, .int .u8 0, .int .u8 0, .int .u8 0, .int .u8 0, .int .u8 0, .int .u8 0, .int .u8 0, .int .u8 0, .int .u8 0, .bool false, .int .i64 0, .int .i64 0]) rfl (by kernel_rfl) (by kernel_rfl) (by kernel_rfl) (fun _ _ _ h => h) (fun l w => Iff.rfl) (fun l w _ => by go_simp) ?_
      simp only [Act.put, List.setIfInBounds_toArray, List.set_cons_zero, List.set_cons_succ]
      refine takeR (i := 1) (x := 51) (v := .iface 89 (.pointer (some (A 1)))) rfl (by kernel_rfl) (by kernel_rfl) (by kernel_rfl) (fun _ _ _ h => h) (fun l w => Iff.rfl) (fun l w hw => by have hq := hw.2.2; clear hw; go_simp) ?_
      simp only [Act.put, List.setIfInBounds_toArray, List.set_cons_zero, List.set_cons_succ]
      refine takeSR (i := 2) w.heap.size #[.int .u8 0, .int .u8 0, .int .u8 0, .int .u8 0, .int .u8 0, .int .u8 0, .int .u8 0, .int .u8 0, .int .u8 0, .int .u8 0, .int .u8 0, .int .u8 0, .int .u8 0, .int .u8 0, .int .u8 0, .int .u8 0, .int .u8 0, .int .u8 0, .bool false, .int .i64 0, .int .i64 0] #[.int .u8 0, .int .u8 0, .int .u8 0, .int .u8 0, .int .u8 0, .int .u8 0, .int .u8 0, .int .u8 0, .int .u8 0, .int .u8 0, .int .u8 0, .int .u8 0, .int .u8 0, .int .u8 0, .int .u8 0, .int .u8 0, .int .u8 0, .int .u8 0, .bool false, .int .i64 0, .int .i64 0] 36 rfl (by kernel_rfl) rfl rfl (fun w' hw => hw.2.1) rfl (by kernel_rfl) (by simp [Value.oneCell']) (fun w' w'' hw hG hrow => ⟨hw.1.new_row hG (Nat.le_refl _), hrow, (World.cell?_of_block (w := w') (hG.block _ (Nat.lt_of_lt_of_le HNE.out hw.1.size) (by have := HNE.out; simp; omega))).trans hw.2.2⟩) ?_
      refine takeR (i := 3) (x := 3) (v := .iface 89 (.pointer (some (A 1)))) rfl (by kernel_rfl) (by kernel_rfl) (by kernel_rfl) (fun _ _ _ h => h) (fun l w => Iff.rfl) (fun l w _ => by go_simp) ?_
      simp only [Act.put, List.setIfInBounds_toArray, List.set_cons_zero, List.set_cons_succ]
      refine wpAnyS_done (by kernel_rfl) fun w10 hw6 => ?_
      have HF := Lib.hid hw6.1
      have HR6 := Lib.hid hw6.2.1
      clear hw6
      (try go_wp2_with fail)
      (try simp only [Exit.inBlock, Exit.then])
      refine bodyPost_ret (res_del rfl rfl HR6.out (by kernel_rfl)) rfl ?_
      exact ⟨fun h => absurd h hnP, fun _ => rfl, HF.out⟩
  · have hs4 := HS.out _ (HG1.out.trans HG.out)
    have HQ := Lib.hid (del_bad ⟨t0, t1, t2, t3, t4, t5⟩ ⟨f0, f1, f2, f3, f4, f5⟩ ⟨s0, s1, s2, s3, s4, s5⟩ true TT m28 _ w9 hok hs4.c2 (by have := hs4.big; have := (HG1.out.trans HG.out).size; have := HBW.out; omega))
    unfold delV at HQ
    simp only at HQ
    have hnP : ¬ P := fun h => hok (HP.out.1 h).1
    clear hok hs4
    go_wp2_with fail
    refine HQ.out.mono ?_
    rintro e wX ⟨rfl, hgX⟩
    have HG := Lib.hid (HG.out.trans hgX)
    clear hgX HQ HROW
    have HSH : Hid (wX.cell? ⟨1, 0, none⟩ = some (.iface 89 (.pointer (some (A 1))))) := (HS.out _ (HG1.out.trans HG.out)).c1
    have hzX := HZ.out _ HG.out
    have hgX := HG1.out.trans HG.out
    go_wp2_with fail
    refine wp_region_R (fun _ w' => Gro none w w' ∧ w'.heap[w.heap.size]? = some (.cells #[.int .u8 0, .int .u8 0, .int .u8 0, .int .u8 0, .int .u8 0, .int .u8 0, .int .u8 0, .int .u8 0, .int .u8 0, .int .u8 0, .int .u8 0, .int .u8 0, .int .u8 0, .int .u8 0, .int .u8 0, .int .u8 0, .int .u8 0, .int .u8 0, .bool false, .int .i64 0, .int .i64 0] 36 (0, 0)) ∧ w'.cell? ⟨1, 0, none⟩ = some (.iface 89 (.pointer (some (A 1))))) (by kernel_rfl) ⟨hgX.drew, hzX, HSH.out⟩ ?_
    clear hzX hgX
    refine takeR (i := 0) (x := 50) (v := .agg #[.int .u8 0, .int .u8 0, .int .u8 0, .int .u8 0, .int .u8 0, .int .u8 0, .int .u8 0, .int .u8 0, .int .u8 0, .int .u8 0, .int .u8 0, .int .u8 0, .int .u8 0, .int .u8 0, .int .u8 0, .int .u8 0, .int .u8 0, .int .u8 0, .bool false, .int .i64 0, .int .i64 0]) rfl (by kernel_rfl) (by kernel_rfl) (by kernel_rfl) (fun _ _ _ h => h) (fun l w => Iff.rfl) (fun l w _ => by go_simp) ?_
    simp only [Act.put, List.setIfInBounds_toArray, List.set_cons_zero, List.set_cons_succ]
    refine takeR (i := 1) (x := 51) (v := .iface 89 (.pointer (some (A 1)))) rfl (by kernel_rfl) (by kernel_rfl) (by kernel_rfl) (fun _ _ _ h => h) (fun l w => Iff.rfl) (fun l w hw => by have hq := hw.2.2; clear hw; go_simp) ?_
    simp only [Act.put, List.setIfInBounds_toArray, List.set_cons_zero, List.set_cons_succ]
    refine takeSR (i := 2) w.heap.size #[.int .u8 0, .int .u8 0, .int .u8 0, .int .u8 0, .int .u8 0, .int .u8 0, .int .u8 0, .int .u8 0, .int .u8 0, .int .u8 0, .int .u8 0, .int .u8 0, .int .u8 0, .int .u8 0, .int .u8 0, .int .u8 0, .int .u8 0, .int .u8 0, .bool false, .int .i64 0, .int .i64 0] #[.int .u8 0, .int .u8 0, .int .u8 0, .int .u8 0, .int .u8 0, .int .u8 0, .int .u8 0, .int .u8 0, .int .u8 0, .int .u8 0, .int .u8 0, .int .u8 0, .int .u8 0, .int .u8 0, .int .u8 0, .int .u8 0, .int .u8 0, .int .u8 0, .bool false, .int .i64 0, .int .i64 0] 36 rfl (by kernel_rfl) rfl rfl (fun w' hw => hw.2.1) rfl (by kernel_rfl) (by simp [Value.oneCell']) (fun w' w'' hw hG hrow => ⟨hw.1.new_row hG (Nat.le_refl _), hrow, (World.cell?_of_block (w := w') (hG.block _ (Nat.lt_of_lt_of_le HNE.out hw.1.size) (by have := HNE.out; simp; omega))).trans hw.2.2⟩) ?_
    refine takeR (i := 3) (x := 3) (v := .iface 89 (.pointer (some (A 1)))) rfl (by kernel_rfl) (by kernel_rfl) (by kernel_rfl) (fun _ _ _ h => h) (fun l w => Iff.rfl) (fun l w _ => by go_simp) ?_
    simp only [Act.put, List.setIfInBounds_toArray, List.set_cons_zero, List.set_cons_succ]
    refine wpAnyS_done (by kernel_rfl) fun w10 hw6 => ?_
    have HF := Lib.hid hw6.1
    have HR6 := Lib.hid hw6.2.1
    clear hw6
    (try go_wp2_with fail)
    (try simp only [Exit.inBlock, Exit.then])
    refine bodyPost_ret (res_del rfl rfl HR6.out (by kernel_rfl)) rfl ?_
    exact ⟨fun h => absurd h hnP, fun _ => rfl, HF.out⟩

set_option maxHeartbeats 8000000 in
set_option maxRecDepth 100000 in
theorem readDel_his (b o cap : Nat) (bs : List Int) (B : Nat) (A : Nat → Addr) (w : World) (hs : Four B w A) (hB : B ≤ w.heap.size) (hcap : bs.length ≤ cap) (h : Lie w (some ⟨b, o, none⟩) bs) (hb : Bytes bs) (hr : longA bs 30 (kDel bs) = 0) (hy : mineOf bs = false) :
    Calls Tryd.prog 16 #[.slice (some ⟨b, o, none⟩) bs.length cap] w fun e w' => (isDel bs → e = .returned (.tuple #[delV (ad6 bs 4) (ad6 bs 10) (ad6 bs 16) (mineOf bs) (num2 bs 26 / 4096) (num2 bs 28), .nilIface])) ∧ (¬ isDel bs → e = .returned (.tuple #[delV adZ adZ adZ false 0 0, errV A 2])) ∧ Gro none w w' := by
  have HL := Lib.hid (fun w' g k hg => long_del (some ⟨b, o, none⟩) cap bs B A w hs h hb w' g k hB hg)
  rw [hr] at HL
  obtain ⟨hlen, -⟩ := longA_zero hr (by decide)
  have HAD := Lib.hid (fun w' (k : Gro none w w') => addrs_any b o cap bs w' (by omega) hcap (h.gro k (by simp)))
  have HE := Lib.hid (fun w' (k : Gro none w w') (q : Option Addr) (d : Nat) (ys : List Int) (hl : ys.length = 30) (hy : Lie w' q ys) (by_ : Bytes ys) => equal_any q (some ⟨b, o, none⟩) d cap ys bs w' hy (h.gro k (by simp)) (by omega) (by omega) by_ hb)
  have HNUM : Hid (∀ w', Gro none w w' → ∀ i, i + 2 ≤ 30 → ∀ n c, 2 ≤ n → Calls Tryd.prog 28 #[.slice (some ⟨b, o + i, none⟩) n c] w' fun e w'' => e = .returned (.int .i64 (num2 bs i)) ∧ Gro none w' w'') := fun w' k i hi n c hn => (number_at2 b (o + i) n c (bs.getD i 0) (bs.getD (i + 1) 0) w' hn
    (by obtain ⟨b', o', e, hc⟩ := h.gro k (by simp) i (by omega); cases e; exact hc) (by obtain ⟨b', o', e, hc⟩ := h.gro k (by simp) (i + 1) (by omega); cases e; exact hc) (hb i) (hb (i + 1))).mono fun e w'' ⟨he, m, hm⟩ => ⟨he, hm ▸ (Gro.refl _ _).drewN m⟩
  have HN26 := Lib.hid (fun w' k n c hn => HNUM.out w' k 26 (by decide) n c hn)
  have HN28 := Lib.hid (fun w' k n c hn => HNUM.out w' k 28 (by decide) n c hn)
  have HS := Lib.hid (fun w' (k : Gro none w w') => (show Four B w' A from hs.far fun i hi => k.block i (by omega) (by simp)))
  have hP : isDel bs ↔ okD (num2 bs 26 / 4096) (num2 bs 28) ∧ delL (ad6 bs 4) (ad6 bs 10) (ad6 bs 16) false (num2 bs 26 / 4096) (num2 bs 28) = bs := by
    unfold isDel
    rw [hy]
  have hmb : ¬ 0 < bits .and .i64 (num2 bs 26) 2048 := by
    unfold mineOf at hy
    exact of_decide_eq_false hy
  rw [hy]
  generalize isDel bs = P at *
  obtain ⟨a26, z26⟩ : 0 ≤ num2 bs 26 ∧ num2 bs 26 < 65536 := by have := hb 26; have := hb (26 + 1); unfold num2; omega
  obtain ⟨a28, z28⟩ : 0 ≤ num2 bs 28 ∧ num2 bs 28 < 65536 := by have := hb 28; have := hb (28 + 1); unfold num2; omega
  have HBA : Hid (∀ x ∈ adL (ad6 bs 4), 0 ≤ x ∧ x < 256) := fun x hx => by simp [adL, ad6] at hx; rcases hx with rfl | rfl | rfl | rfl | rfl | rfl <;> exact hb _
  have HBB : Hid (∀ x ∈ adL (ad6 bs 10), 0 ≤ x ∧ x < 256) := fun x hx => by simp [adL, ad6] at hx; rcases hx with rfl | rfl | rfl | rfl | rfl | rfl <;> exact hb _
  have HBC : Hid (∀ x ∈ adL (ad6 bs 16), 0 ≤ x ∧ x < 256) := fun x hx => by simp [adL, ad6] at hx; rcases hx with rfl | rfl | rfl | rfl | rfl | rfl <;> exact hb _
  clear HNUM hy
  generalize num2 bs 26 = m26 at *
  generalize num2 bs 28 = m28 at *
  obtain ⟨TT, hTT⟩ : ∃ M, M = m26 / 4096 := ⟨_, rfl⟩
  rw [← hTT] at hP ⊢
  have e2 : m26.tdiv 4096 = TT := (Int.tdiv_eq_ediv_of_nonneg (by omega)).trans hTT.symm
  have wT : IntKind.i64.wrap TT = TT := by simp [IntKind.wrap, IntKind.bits, IntKind.signed]; omega
  obtain ⟨MB, hMB⟩ : ∃ M, bits .and .i64 m26 2048 = M := ⟨_, rfl⟩
  rw [hMB] at hmb
  have hdm : decide (0 < MB) = false := decide_eq_false hmb
  have HP := Lib.hid hP
  have HADR : Hid (∀ w', Gro none w w' → Calls Tryd.prog 27 #[.slice (some ⟨b, o, none⟩) 30 cap] w' fun e w'' => e = .returned (.tuple #[adV (ad6 bs 4), adV (ad6 bs 10), adV (ad6 bs 16)]) ∧ Gro none w' w'') := hlen ▸ HAD.out
  clear hP hTT HAD hr
  generalize ad6 bs 4 = ta at *
  generalize ad6 bs 10 = fr at *
  generalize ad6 bs 16 = sa at *
  obtain ⟨t0, t1, t2, t3, t4, t5⟩ := ta
  obtain ⟨f0, f1, f2, f3, f4, f5⟩ := fr
  obtain ⟨s0, s1, s2, s3, s4, s5⟩ := sa
  rw [hlen] at HL hcap ⊢
  have i30 : (30 : Int) ≤ (cap : Int) := by omega
  have j30 : 30 ≤ cap := hcap
  have n26 : ¬ cap = 26 := by omega
  have n28 : ¬ cap = 28 := by omega
  have hne : 1 < w.heap.size := by have := hs.big; omega
  have HNE := Lib.hid hne
  have HBW := Lib.hid hB
  clear hcap hs h hb hne hB
  unfold delV adZ at *
  unfold adV at HADR
  simp only at HADR ⊢
  go_enter Tryd.func16, Tryd.ntmps16
  go_wp2_with fail
  have hg1 : Gro none w ((w.alloc (.cells #[.int .u8 0, .int .u8 0, .int .u8 0, .int .u8 0, .int .u8 0, .int .u8 0, .int .u8 0, .int .u8 0, .int .u8 0, .int .u8 0, .int .u8 0, .int .u8 0, .int .u8 0, .int .u8 0, .int .u8 0, .int .u8 0, .int .u8 0, .int .u8 0, .bool false, .int .i64 0, .int .i64 0] 36)).alloc (.cells #[.int .u8 2] 5)) := ((Gro.refl _ _).alloc _).alloc _
  have hz : ∀ w', Gro none ((w.alloc (.cells #[.int .u8 0, .int .u8 0, .int .u8 0, .int .u8 0, .int .u8 0, .int .u8 0, .int .u8 0, .int .u8 0, .int .u8 0, .int .u8 0, .int .u8 0, .int .u8 0, .int .u8 0, .int .u8 0, .int .u8 0, .int .u8 0, .int .u8 0, .int .u8 0, .bool false, .int .i64 0, .int .i64 0] 36)).alloc (.cells #[.int .u8 2] 5)) w' → w'.heap[w.heap.size]? = some (.cells #[.int .u8 0, .int .u8 0, .int .u8 0, .int .u8 0, .int .u8 0, .int .u8 0, .int .u8 0, .int .u8 0, .int .u8 0, .int .u8 0, .int .u8 0, .int .u8 0, .int .u8 0, .int .u8 0, .int .u8 0, .int .u8 0, .int .u8 0, .int .u8 0, .bool false, .int .i64 0, .int .i64 0] 36 (0, 0)) := fun w' k => (k.block w.heap.size (by simp; omega) (by simp)).trans ((Below.heap_alloc _ _ _ (by simp)).trans (heap_alloc_new w _))
  have hwh : ((w.alloc (.cells #[.int .u8 0, .int .u8 0, .int .u8 0, .int .u8 0, .int .u8 0, .int .u8 0, .int .u8 0, .int .u8 0, .int .u8 0, .int .u8 0, .int .u8 0, .int .u8 0, .int .u8 0, .int .u8 0, .int .u8 0, .int .u8 0, .int .u8 0, .int .u8 0, .bool false, .int .i64 0, .int .i64 0] 36)).alloc (.cells #[.int .u8 2] 5)).heap[w.heap.size + 1]? = some (.cells #[.int .u8 2] 5 (0, 0)) := by
    have h := heap_alloc_new (w.alloc (.cells #[.int .u8 0, .int .u8 0, .int .u8 0, .int .u8 0, .int .u8 0, .int .u8 0, .int .u8 0, .int .u8 0, .int .u8 0, .int .u8 0, .int .u8 0, .int .u8 0, .int .u8 0, .int .u8 0, .int .u8 0, .int .u8 0, .int .u8 0, .int .u8 0, .bool false, .int .i64 0, .int .i64 0] 36)) (.cells #[.int .u8 2] 5)
    simp only [show ∀ (w : World) (o : Obj), (w.alloc o).heap.size = w.heap.size + 1 from fun w o => by simp] at h
    exact h
  have hws : w.heap.size < ((w.alloc (.cells #[.int .u8 0, .int .u8 0, .int .u8 0, .int .u8 0, .int .u8 0, .int .u8 0, .int .u8 0, .int .u8 0, .int .u8 0, .int .u8 0, .int .u8 0, .int .u8 0, .int .u8 0, .int .u8 0, .int .u8 0, .int .u8 0, .int .u8 0, .int .u8 0, .bool false, .int .i64 0, .int .i64 0] 36)).alloc (.cells #[.int .u8 2] 5)).heap.size := by simp; omega
  generalize (w.alloc (.cells #[.int .u8 0, .int .u8 0, .int .u8 0, .int .u8 0, .int .u8 0, .int .u8 0, .int .u8 0, .int .u8 0, .int .u8 0, .int .u8 0, .int .u8 0, .int .u8 0, .int .u8 0, .int .u8 0, .int .u8 0, .int .u8 0, .int .u8 0, .int .u8 0, .bool false, .int .i64 0, .int .i64 0] 36)).alloc (.cells #[.int .u8 2] 5) = w2 at *
  refine (HL.out w2 _ hg1 hwh).mono ?_
  rintro e w' ⟨rfl, rfl⟩
  simp only [errV]
  have HG1 := Lib.hid hg1
  have HZ := Lib.hid hz
  have HG := Lib.hid (Gro.refl none w2)
  clear hg1 hz hwh HL
  go_wp2_with fail
  refine (HN26.out _ HG1.out _ _ (by decide)).mono ?_
  rintro e w3 ⟨rfl, hg⟩
  have HG := Lib.hid (HG.out.trans hg)
  clear hg HN26
  go_wp2_with fail
  refine (HN28.out _ (HG1.out.trans HG.out) _ _ (by decide)).mono ?_
  rintro e w4 ⟨rfl, hg⟩
  have HG := Lib.hid (HG.out.trans hg)
  clear hg HN28
  go_wp2_with (refine alloc_row rfl 36 rfl 6 rfl #[.int .u8 0, .int .u8 0, .int .u8 0, .int .u8 0, .int .u8 0, .int .u8 0, .int .u8 0, .int .u8 0, .int .u8 0, .int .u8 0, .int .u8 0, .int .u8 0, .int .u8 0, .int .u8 0, .int .u8 0, .int .u8 0, .int .u8 0, .int .u8 0, .bool false, .int .i64 0, .int .i64 0] 36 del_run rfl (.tmp 27) rfl (by first | (simp; done) | (simp [Act.put]; done)) #[.int .u8 0, .int .u8 0, .int .u8 0, .int .u8 0, .int .u8 0, .int .u8 0, .int .u8 0, .int .u8 0, .int .u8 0, .int .u8 0, .int .u8 0, .int .u8 0, .int .u8 0, .int .u8 0, .int .u8 0, .int .u8 0, .int .u8 0, .int .u8 0, .bool false, .int .i64 TT, .int .i64 m28] (by rfl) rfl (by kernel_rfl) (by simp [Value.oneCell']) ?_)
  intro w5 hg hr
  have hge : w2.heap.size ≤ w4.heap.size := HG.out.size
  generalize w4.heap.size = g at *
  have HROW := Lib.hid hr
  have HG := Lib.hid (HG.out.trans hg)
  clear hg hr
  go_wp2_with fail
  refine (HADR.out w5 (HG1.out.trans HG.out)).mono ?_
  rintro e w6 ⟨rfl, hg⟩
  have HROW := Lib.hid ((hg.block g (blk_lt HROW.out) (by simp)).trans HROW.out)
  have HG := Lib.hid (HG.out.trans hg)
  clear hg HADR
  go_wp2_with (refine store_part rfl 25 _ _ rfl g 0 rfl #[.int .u8 t0, .int .u8 t1, .int .u8 t2, .int .u8 t3, .int .u8 t4, .int .u8 t5] rfl #[.int .u8 0, .int .u8 0, .int .u8 0, .int .u8 0, .int .u8 0, .int .u8 0, .int .u8 0, .int .u8 0, .int .u8 0, .int .u8 0, .int .u8 0, .int .u8 0, .int .u8 0, .int .u8 0, .int .u8 0, .int .u8 0, .int .u8 0, .int .u8 0, .bool false, .int .i64 TT, .int .i64 m28] 36 HROW.out (by simp) (by kernel_rfl) (by simp [Value.oneCell']) #[.int .u8 t0, .int .u8 t1, .int .u8 t2, .int .u8 t3, .int .u8 t4, .int .u8 t5, .int .u8 0, .int .u8 0, .int .u8 0, .int .u8 0, .int .u8 0, .int .u8 0, .int .u8 0, .int .u8 0, .int .u8 0, .int .u8 0, .int .u8 0, .int .u8 0, .bool false, .int .i64 TT, .int .i64 m28] (by simp only [List.toList_toArray, setL, List.setIfInBounds_toArray, List.set_cons_zero, List.set_cons_succ, Nat.reduceAdd]) ?_)
  intro w7 hg hr
  have HROW := Lib.hid hr
  have HG := Lib.hid (HG.out.new_row hg hge)
  clear hg hr
  go_wp2_with (refine store_part rfl 25 _ _ rfl g 6 rfl #[.int .u8 f0, .int .u8 f1, .int .u8 f2, .int .u8 f3, .int .u8 f4, .int .u8 f5] rfl #[.int .u8 t0, .int .u8 t1, .int .u8 t2, .int .u8 t3, .int .u8 t4, .int .u8 t5, .int .u8 0, .int .u8 0, .int .u8 0, .int .u8 0, .int .u8 0, .int .u8 0, .int .u8 0, .int .u8 0, .int .u8 0, .int .u8 0, .int .u8 0, .int .u8 0, .bool false, .int .i64 TT, .int .i64 m28] 36 HROW.out (by simp) (by kernel_rfl) (by simp [Value.oneCell']) #[.int .u8 t0, .int .u8 t1, .int .u8 t2, .int .u8 t3, .int .u8 t4, .int .u8 t5, .int .u8 f0, .int .u8 f1, .int .u8 f2, .int .u8 f3, .int .u8 f4, .int .u8 f5, .int .u8 0, .int .u8 0, .int .u8 0, .int .u8 0, .int .u8 0, .int .u8 0, .bool false, .int .i64 TT, .int .i64 m28] (by simp only [List.toList_toArray, setL, List.setIfInBounds_toArray, List.set_cons_zero, List.set_cons_succ, Nat.reduceAdd]) ?_)
  intro w8 hg hr
  have HROW := Lib.hid hr
  have HG := Lib.hid (HG.out.new_row hg hge)
  clear hg hr
  go_wp2_with (refine store_part rfl 25 _ _ rfl g 12 rfl #[.int .u8 s0, .int .u8 s1, .int .u8 s2, .int .u8 s3, .int .u8 s4, .int .u8 s5] rfl #[.int .u8 t0, .int .u8 t1, .int .u8 t2, .int .u8 t3, .int .u8 t4, .int .u8 t5, .int .u8 f0, .int .u8 f1, .int .u8 f2, .int .u8 f3, .int .u8 f4, .int .u8 f5, .int .u8 0, .int .u8 0, .int .u8 0, .int .u8 0, .int .u8 0, .int .u8 0, .bool false, .int .i64 TT, .int .i64 m28] 36 HROW.out (by simp) (by kernel_rfl) (by simp [Value.oneCell']) #[.int .u8 t0, .int .u8 t1, .int .u8 t2, .int .u8 t3, .int .u8 t4, .int .u8 t5, .int .u8 f0, .int .u8 f1, .int .u8 f2, .int .u8 f3, .int .u8 f4, .int .u8 f5, .int .u8 s0, .int .u8 s1, .int .u8 s2, .int .u8 s3, .int .u8 s4, .int .u8 s5, .bool false, .int .i64 TT, .int .i64 m28] (by simp only [List.toList_toArray, setL, List.setIfInBounds_toArray, List.set_cons_zero, List.set_cons_succ, Nat.reduceAdd]) ?_)
  intro w9 hg hr
  have HROW := Lib.hid hr
  have HG := Lib.hid (HG.out.new_row hg hge)
  clear hg hr
  go_wp2_with (refine load_row rfl _ _ rfl _ rfl _ _ HROW.out _ Tryd.underlying36 rfl (by kernel_rfl) ?_)
  by_cases hok : okD TT m28
  · have HQ := Lib.hid (del_any ⟨t0, t1, t2, t3, t4, t5⟩ ⟨f0, f1, f2, f3, f4, f5⟩ ⟨s0, s1, s2, s3, s4, s5⟩ false TT m28 w9 hok)
    have hal : (delL ⟨t0, t1, t2, t3, t4, t5⟩ ⟨f0, f1, f2, f3, f4, f5⟩ ⟨s0, s1, s2, s3, s4, s5⟩ false TT m28).length = 30 := by simp [delL, frontL, adL, twoL]
    have hby : Bytes (delL ⟨t0, t1, t2, t3, t4, t5⟩ ⟨f0, f1, f2, f3, f4, f5⟩ ⟨s0, s1, s2, s3, s4, s5⟩ false TT m28) := by
      intro i
      rcases Nat.lt_or_ge i 30 with hi | hi
      · have hm : (delL ⟨t0, t1, t2, t3, t4, t5⟩ ⟨f0, f1, f2, f3, f4, f5⟩ ⟨s0, s1, s2, s3, s4, s5⟩ false TT m28).getD i 0 ∈ delL ⟨t0, t1, t2, t3, t4, t5⟩ ⟨f0, f1, f2, f3, f4, f5⟩ ⟨s0, s1, s2, s3, s4, s5⟩ false TT m28 := by
          rw [List.getD_eq_getElem?_getD, List.getElem?_eq_getElem (by omega)]
          exact List.getElem_mem _
        exact del_mem hok HBA.out HBB.out HBC.out _ hm
      · rw [List.getD_eq_getElem?_getD, List.getElem?_eq_none (by omega)]
        exact ⟨by decide, by decide⟩
    unfold delV at HQ
    simp only at HQ
    generalize hY : delL ⟨t0, t1, t2, t3, t4, t5⟩ ⟨f0, f1, f2, f3, f4, f5⟩ ⟨s0, s1, s2, s3, s4, s5⟩ false TT m28 = Y at HQ hal hby
    have HY := Lib.hid hY
    clear hY
    go_wp2_with fail
    refine HQ.out.mono ?_
    rintro e wX ⟨v, rfl, hgX, hoX⟩
    obtain ⟨q, d, rfl, -, hlY, -⟩ := hoX.lie
    have HROW := Lib.hid ((hgX.block g (blk_lt HROW.out) (by simp)).trans HROW.out)
    have HG := Lib.hid (HG.out.trans hgX)
    have HQ2 := Lib.hid (HE.out wX (HG1.out.trans HG.out) q d Y hal hlY hby)
    have HYB : Hid (P ↔ Y = bs) := ⟨fun h => HY.out ▸ (HP.out.1 h).2, fun h => HP.out.2 ⟨hok, HY.out ▸ h⟩⟩
    rw [hal, hlen] at HQ2
    rw [hal]
    clear hoX hlY hby hal HQ HY HE hgX
    by_cases heq : Y = bs
    · rw [decide_eq_true heq] at HQ2
      have hPP : P := HYB.out.2 heq
      clear heq HYB hok
      go_wp2_with fail
      refine HQ2.out.mono ?_
      rintro e w' ⟨rfl, rfl⟩
      have hzX := HZ.out _ HG.out
      go_wp2_with (first | (refine load_row rfl _ _ rfl _ rfl _ _ HROW.out _ Tryd.underlying36 rfl (by kernel_rfl) ?_) | (refine store_row rfl 36 _ _ rfl w.heap.size rfl #[.int .u8 t0, .int .u8 t1, .int .u8 t2, .int .u8 t3, .int .u8 t4, .int .u8 t5, .int .u8 f0, .int .u8 f1, .int .u8 f2, .int .u8 f3, .int .u8 f4, .int .u8 f5, .int .u8 s0, .int .u8 s1, .int .u8 s2, .int .u8 s3, .int .u8 s4, .int .u8 s5, .bool false, .int .i64 TT, .int .i64 m28] (by rfl) #[.int .u8 0, .int .u8 0, .int .u8 0, .int .u8 0, .int .u8 0, .int .u8 0, .int .u8 0, .int .u8 0, .int .u8 0, .int .u8 0, .int .u8 0, .int .u8 0, .int .u8 0, .int .u8 0, .int .u8 0, .int .u8 0, .int .u8 0, .int .u8 0, .bool false, .int .i64 0, .int .i64 0] 36 hzX rfl (by kernel_rfl) (by simp [Value.oneCell']) ?_))
      intro w10 hg6 hr6
      have HF := Lib.hid ((HG1.out.trans HG.out).new_row hg6 (Nat.le_refl _))
      have HR6 := Lib.hid hr6
      clear hg6 hzX HQ2 hr6
      (try go_wp2_with fail)
      (try simp only [Exit.inBlock, Exit.then])
      refine bodyPost_ret (res_del rfl rfl HR6.out (by kernel_rfl)) rfl ?_
      exact ⟨fun _ => rfl, fun h => absurd hPP h, HF.out⟩
    · rw [decide_eq_false heq] at HQ2
      have hnP : ¬ P := fun h => heq (HYB.out.1 h)
      clear heq HYB hok
      go_wp2_with fail
      refine HQ2.out.mono ?_
      rintro e w' ⟨rfl, rfl⟩
      clear HQ2
      have HSH : Hid (wX.cell? ⟨1, 0, none⟩ = some (.iface 89 (.pointer (some (A 1))))) := (HS.out _ (HG1.out.trans HG.out)).c1
      have hzX := HZ.out _ HG.out
      have hgX := HG1.out.trans HG.out
      go_wp2_with fail
      refine wp_region_R (fun _ w' => Gro none w w' ∧ w'.heap[w.heap.size]? = some (.cells #[.int .u8 0, .int .u8 0, .int .u8 0, .int .u8 0, .int .u8 0, .int .u8 0, .int .u8 0, .int .u8 0, .int .u8 0, .int .u8 0, .int .u8 0, .int .u8 0, .int .u8 0, .int .u8 0, .int .u8 0, .int .u8 0, .int .u8 0, .int .u8 0, .bool false, .int .i64 0, .int .i64 0] 36 (0, 0)) ∧ w'.cell? ⟨1, 0, none⟩ = some (.iface 89 (.pointer (some (A 1))))) (by kernel_rfl) ⟨hgX.drew, hzX, HSH.out⟩ ?_
      clear hzX hgX
      refine takeR (i := 0) (x := 50) (v := .agg #[.int .u8 0, .int .u8 0, .int .u8 0, .int .u8 0, .int .u8 0, .int .u8 0, .int .u8 0, .int .u8 0, .int .u8 0, .int .u8 0, .int .u8 0, .int .u8 0, .int .u8 0, .int .u8 0, .int .u8 0, .int .u8 0, .int .u8 0, .int .u8 0, .bool false, .int .i64 0, .int .i64 0]) rfl (by kernel_rfl) (by kernel_rfl) (by kernel_rfl) (fun _ _ _ h => h) (fun l w => Iff.rfl) (fun l w _ => by go_simp) ?_
      simp only [Act.put, List.setIfInBounds_toArray, List.set_cons_zero, List.set_cons_succ]
      refine takeR (i := 1) (x := 51) (v := .iface 89 (.pointer (some (A 1)))) rfl (by kernel_rfl) (by kernel_rfl) (by kernel_rfl) (fun _ _ _ h => h) (fun l w => Iff.rfl) (fun l w hw => by have hq := hw.2.2; clear hw; go_simp) ?_
      simp only [Act.put, List.setIfInBounds_toArray, List.set_cons_zero, List.set_cons_succ]
      refine takeSR (i := 2) w.heap.size #[.int .u8 0, .int .u8 0, .int .u8 0, .int .u8 0, .int .u8 0, .int .u8 0, .int .u8 0, .int .u8 0, .int .u8 0, .int .u8 0, .int .u8 0, .int .u8 0, .int .u8 0, .int .u8 0, .int .u8 0, .int .u8 0, .int .u8 0, .int .u8 0, .bool false, .int .i64 0, .int .i64 0] #[.int .u8 0, .int .u8 0, .int .u8 0, .int .u8 0, .int .u8 0, .int .u8 0, .int .u8 0, .int .u8 0, .int .u8 0, .int .u8 0, .int .u8 0, .int .u8 0, .int .u8 0, .int .u8 0, .int .u8 0, .int .u8 0, .int .u8 0, .int .u8 0, .bool false, .int .i64 0, .int .i64 0] 36 rfl (by kernel_rfl) rfl rfl (fun w' hw => hw.2.1) rfl (by kernel_rfl) (by simp [Value.oneCell']) (fun w' w'' hw hG hrow => ⟨hw.1.new_row hG (Nat.le_refl _), hrow, (World.cell?_of_block (w := w') (hG.block _ (Nat.lt_of_lt_of_le HNE.out hw.1.size) (by have := HNE.out; simp; omega))).trans hw.2.2⟩) ?_
      refine takeR (i := 3) (x := 3) (v := .iface 89 (.pointer (some (A 1)))) rfl (by kernel_rfl) (by kernel_rfl) (by kernel_rfl) (fun _ _ _ h => h) (fun l w => Iff.rfl) (fun l w _ => by go_simp) ?_
      simp only [Act.put, List.setIfInBounds_toArray, List.set_cons_zero, List.set_cons_succ]
      refine wpAnyS_done (by kernel_rfl) fun w10 hw6 => ?_
      have HF := Lib.hid hw6.1
      have HR6 := Lib.hid hw6.2.1
      clear hw6
      (try go_wp2_with fail)
      (try simp only [Exit.inBlock, Exit.then])
      refine bodyPost_ret (res_del rfl rfl HR6.out (by kernel_rfl)) rfl ?_
      exact ⟨fun h => absurd h hnP, fun _ => rfl, HF.out⟩
  · have hs4 := HS.out _ (HG1.out.trans HG.out)
    have HQ := Lib.hid (del_bad ⟨t0, t1, t2, t3, t4, t5⟩ ⟨f0, f1, f2, f3, f4, f5⟩ ⟨s0, s1, s2, s3, s4, s5⟩ false TT m28 _ w9 hok hs4.c2 (by have := hs4.big; have := (HG1.out.trans HG.out).size; have := HBW.out; omega))
    unfold delV at HQ
    simp only at HQ
    have hnP : ¬ P := fun h => hok (HP.out.1 h).1
    clear hok hs4
    go_wp2_with fail
    refine HQ.out.mono ?_
    rintro e wX ⟨rfl, hgX⟩
    have HG := Lib.hid (HG.out.trans hgX)
    clear hgX HQ HROW
    have HSH : Hid (wX.cell? ⟨1, 0, none⟩ = some (.iface 89 (.pointer (some (A 1))))) := (HS.out _ (HG1.out.trans HG.out)).c1
    have hzX := HZ.out _ HG.out
    have hgX := HG1.out.trans HG.out
    go_wp2_with fail
    refine wp_region_R (fun _ w' => Gro none w w' ∧ w'.heap[w.heap.size]? = some (.cells #[.int .u8 0, .int .u8 0, .int .u8 0, .int .u8 0, .int .u8 0, .int .u8 0, .int .u8 0, .int .u8 0, .int .u8 0, .int .u8 0, .int .u8 0, .int .u8 0, .int .u8 0, .int .u8 0, .int .u8 0, .int .u8 0, .int .u8 0, .int .u8 0, .bool false, .int .i64 0, .int .i64 0] 36 (0, 0)) ∧ w'.cell? ⟨1, 0, none⟩ = some (.iface 89 (.pointer (some (A 1))))) (by kernel_rfl) ⟨hgX.drew, hzX, HSH.out⟩ ?_
    clear hzX hgX
    refine takeR (i := 0) (x := 50) (v := .agg #[.int .u8 0, .int .u8 0, .int .u8 0, .int .u8 0, .int .u8 0, .int .u8 0, .int .u8 0, .int .u8 0, .int .u8 0, .int .u8 0, .int .u8 0, .int .u8 0, .int .u8 0, .int .u8 0, .int .u8 0, .int .u8 0, .int .u8 0, .int .u8 0, .bool false, .int .i64 0, .int .i64 0]) rfl (by kernel_rfl) (by kernel_rfl) (by kernel_rfl) (fun _ _ _ h => h) (fun l w => Iff.rfl) (fun l w _ => by go_simp) ?_
    simp only [Act.put, List.setIfInBounds_toArray, List.set_cons_zero, List.set_cons_succ]
    refine takeR (i := 1) (x := 51) (v := .iface 89 (.pointer (some (A 1)))) rfl (by kernel_rfl) (by kernel_rfl) (by kernel_rfl) (fun _ _ _ h => h) (fun l w => Iff.rfl) (fun l w hw => by have hq := hw.2.2; clear hw; go_simp) ?_
    simp only [Act.put, List.setIfInBounds_toArray, List.set_cons_zero, List.set_cons_succ]
    refine takeSR (i := 2) w.heap.size #[.int .u8 0, .int .u8 0, .int .u8 0, .int .u8 0, .int .u8 0, .int .u8 0, .int .u8 0, .int .u8 0, .int .u8 0, .int .u8 0, .int .u8 0, .int .u8 0, .int .u8 0, .int .u8 0, .int .u8 0, .int .u8 0, .int .u8 0, .int .u8 0, .bool false, .int .i64 0, .int .i64 0] #[.int .u8 0, .int .u8 0, .int .u8 0, .int .u8 0, .int .u8 0, .int .u8 0, .int .u8 0, .int .u8 0, .int .u8 0, .int .u8 0, .int .u8 0, .int .u8 0, .int .u8 0, .int .u8 0, .int .u8 0, .int .u8 0, .int .u8 0, .int .u8 0, .bool false, .int .i64 0, .int .i64 0] 36 rfl (by kernel_rfl) rfl rfl (fun w' hw => hw.2.1) rfl (by kernel_rfl) (by simp [Value.oneCell']) (fun w' w'' hw hG hrow => ⟨hw.1.new_row hG (Nat.le_refl _), hrow, (World.cell?_of_block (w := w') (hG.block _ (Nat.lt_of_lt_of_le HNE.out hw.1.size) (by have := HNE.out; simp; omega))).trans hw.2.2⟩) ?_
    refine takeR (i := 3) (x := 3) (v := .iface 89 (.pointer (some (A 1)))) rfl (by kernel_rfl) (by kernel_rfl) (by kernel_rfl) (fun _ _ _ h => h) (fun l w => Iff.rfl) (fun l w _ => by go_simp) ?_
    simp only [Act.put, List.setIfInBounds_toArray, List.set_cons_zero, List.set_cons_succ]
    refine wpAnyS_done (by kernel_rfl) fun w10 hw6 => ?_
    have HF := Lib.hid hw6.1
    have HR6 := Lib.hid hw6.2.1
    clear hw6
    (try go_wp2_with fail)
    (try simp only [Exit.inBlock, Exit.then])
    refine bodyPost_ret (res_del rfl rfl HR6.out (by kernel_rfl)) rfl ?_
    exact ⟨fun h => absurd h hnP, fun _ => rfl, HF.out⟩
end Go.Proofs.YtflckkeaakmojaaDoor
