/-
  THE WALK OF ctl.ReadAck. Conditions: the fourteen sentinels' own ('Sent'); the bytes lie where the slice says.
-/
import Derived.Test.YtadcpoglkmklhaaDoorCtlB
namespace Go.Proofs.YtadcpoglkmklhaaDoor
open Go.RowKit

/-- The number of a map's first k bytes. -/
def mapV (bs : List Int) : Nat → Int
  | 0 => 0
  | k + 1 => mapV bs k + bs.getD (20 + k) 0 * 2 ^ (8 * k)
theorem mapV_le {bs : List Int} (h : Bytes bs) : ∀ k, 0 ≤ mapV bs k ∧ mapV bs k < 2 ^ (8 * k)
  | 0 => by simp [mapV]
  | k + 1 => by
    have ih := mapV_le h k
    have hb := h (20 + k)
    have hp : (0 : Int) < 2 ^ (8 * k) := Int.pow_pos (by decide)
    have e : (2 : Int) ^ (8 * (k + 1)) = 2 ^ (8 * k) * 256 := by rw [show 8 * (k + 1) = 8 * k + 8 from by omega, Int.pow_add]; rfl
    rw [e, show mapV bs (k + 1) = mapV bs k + bs.getD (20 + k) 0 * 2 ^ (8 * k) from rfl]
    refine ⟨Int.add_nonneg ih.1 (Int.mul_nonneg hb.1 (Int.le_of_lt hp)), ?_⟩
    have h1 : bs.getD (20 + k) 0 * 2 ^ (8 * k) ≤ 255 * 2 ^ (8 * k) := Int.mul_le_mul_of_nonneg_right (by omega) (Int.le_of_lt hp)
    generalize (2 : Int) ^ (8 * k) = q at *
    omega
theorem or_map {bs : List Int} (h : Bytes bs) (k : Nat) (hk : k < 8) : bits .or .u64 (mapV bs k) (IntKind.u64.wrap (bs.getD (20 + k) 0 * 2 ^ (8 * k))) = mapV bs (k + 1) := by
  have hm := mapV_le h k
  have hb := h (20 + k)
  have hm1 := mapV_le h (k + 1)
  have hlt : (2 : Int) ^ (8 * (k + 1)) ≤ 2 ^ 64 := by
    rcases (show k = 0 ∨ k = 1 ∨ k = 2 ∨ k = 3 ∨ k = 4 ∨ k = 5 ∨ k = 6 ∨ k = 7 from by omega) with rfl | rfl | rfl | rfl | rfl | rfl | rfl | rfl <;> decide
  have hmm : mapV bs (k + 1) = mapV bs k + bs.getD (20 + k) 0 * 2 ^ (8 * k) := rfl
  rw [hmm] at hm1 ⊢
  clear hmm
  generalize mapV bs k = M at hm hm1 ⊢
  generalize bs.getD (20 + k) 0 = y at hb hm1 ⊢
  obtain ⟨a, rfl⟩ := Int.eq_ofNat_of_zero_le hm.1
  obtain ⟨c, rfl⟩ := Int.eq_ofNat_of_zero_le hb.1
  have e2 : (2 : Int) ^ (8 * k) = ((2 ^ (8 * k) : Nat) : Int) := by simp
  rw [e2] at hm hm1 ⊢
  have h3 : a < 2 ^ (8 * k) := by omega
  have e3 : ((c : Int) * ((2 ^ (8 * k) : Nat) : Int)) = ((c * 2 ^ (8 * k) : Nat) : Int) := by simp
  rw [e3] at hm1 ⊢
  have h64 : (2 : Int) ^ 64 = 18446744073709551616 := by decide
  have h4 : c * 2 ^ (8 * k) < 18446744073709551616 := by omega
  have h5 : a < 18446744073709551616 := by omega
  rw [IntKind.wrap_u64]
  rw [Int.emod_eq_of_lt (by omega) (by omega), u64_or_nat a _ h5 h4, Nat.or_comm, nat_join (8 * k) (c * 2 ^ (8 * k)) a (Nat.mul_mod_left _ _) h3]
  omega
/-- Is it an Ack? -/
def isAck (bs : List Int) : Prop := okB (bTid bs) (bSeq bs) ∧ ackL (ad6 bs 4) (ad6 bs 10) (bTid bs) (bSeq bs) (mapV bs 8) = bs
theorem ack_len (to fr : Ad) (tid seq m : Int) : (ackL to fr tid seq m).length = 28 := by unfold ackL; rw [List.length_append, asks_len, mapL_len]
theorem map_mem {m : Int} : ∀ k, ∀ x ∈ mapL m k, 0 ≤ x ∧ x < 256
  | 0, x, hx => by simp [mapL] at hx
  | k + 1, x, hx => by
    simp only [mapL, List.mem_append, List.mem_singleton] at hx
    rcases hx with hx | rfl
    · exact map_mem k x hx
    · exact ⟨Int.emod_nonneg _ (by decide), Int.emod_lt_of_pos _ (by decide)⟩
theorem ack_mem {to fr : Ad} {tid seq m : Int} (h : okB tid seq) (ht : ∀ x ∈ adL to, 0 ≤ x ∧ x < 256) (hf : ∀ x ∈ adL fr, 0 ≤ x ∧ x < 256) : ∀ x ∈ ackL to fr tid seq m, 0 ≤ x ∧ x < 256 := by
  intro x hx
  unfold ackL at hx
  rw [List.mem_append] at hx
  rcases hx with hx | hx
  · exact asks_mem (by decide) h ht hf x hx
  · exact map_mem 8 x hx

set_option maxHeartbeats 4000000 in
set_option maxRecDepth 100000 in
theorem readAck_any (p : Option Addr) (cap : Nat) (bs : List Int) (B : Nat) (A : Nat → Addr) (w : World) (hs : Four B w A) (hB : B ≤ w.heap.size) (hcap : bs.length ≤ cap) (h : Lie w p bs) (hb : Bytes bs) (hr : longR bs 148 28 = 0) :
    Calls Tryd.prog 18 #[.slice p bs.length cap] w fun e w' => (isAck bs → e = .returned (.tuple #[ackV (ad6 bs 4) (ad6 bs 10) (bTid bs) (bSeq bs) (mapV bs 8), .nilIface])) ∧ (¬ isAck bs → e = .returned (.tuple #[ackV adZ adZ 0 0 0, errV A 2])) ∧ Gro none w w' := by
  have HL := Lib.hid (fun w' (k : Gro none w w') => long_any p cap bs 148 28 B A w' (hs.far fun i hi => k.block i (by omega) (by simp)) (by decide) (h.gro k (by simp)) (by decide))
  rw [hr] at HL
  obtain ⟨hlen, -⟩ := longR_zero hr
  obtain ⟨b, o, rfl, -⟩ := h 0 (by omega)
  have HA : Hid (∀ w', Gro none w w' → Calls Tryd.prog 37 #[.slice (some ⟨b, o, none⟩) bs.length cap] w' fun e w'' => e = .returned (barV (ad6 bs 4) (ad6 bs 10) (bTid bs) (bSeq bs)) ∧ Gro none w' w'') := fun w' (k : Gro none w w') => asked_any b o cap bs w' (by omega) hcap (h.gro k (by simp)) hb
  have HE := Lib.hid (fun w' (k : Gro none w w') (q : Option Addr) (d : Nat) (ys : List Int) (hl : ys.length = 28) (hy : Lie w' q ys) (by_ : Bytes ys) => equal_any q (some ⟨b, o, none⟩) d cap ys bs w' hy (h.gro k (by simp)) (by omega) (by omega) by_ hb)
  have HY : Hid (∀ w', Gro none w w' → ∀ k, k < 8 → w'.cell? ⟨b, o + (20 + k), none⟩ = some (.int .u8 (bs.getD (20 + k) 0))) := fun w' g k hk => by
    obtain ⟨b', o', e, hc⟩ := (h.gro g (by simp)) (20 + k) (by omega)
    cases e; exact hc
  have HMV := Lib.hid (fun k => And.intro (mapV_le hb k) (hb (20 + k)))
  have HOR := Lib.hid (or_map hb)
  have HS := Lib.hid (fun w' (k : Gro none w w') => (show Four B w' A from hs.far fun i hi => k.block i (by omega) (by simp)))
  have HBB := Lib.hid (And.intro hb.ad6 hs.big)
  have hd : (isAck bs ↔ okB (bTid bs) (bSeq bs) ∧ ackL (ad6 bs 4) (ad6 bs 10) (bTid bs) (bSeq bs) (mapV bs 8) = bs) := Iff.rfl
  have HD := Lib.hid hd
  generalize isAck bs = P at *
  generalize bTid bs = T at *
  generalize bSeq bs = S at *
  have HTO := Lib.hid (hb.ad6 4)
  have HFR := Lib.hid (hb.ad6 10)
  generalize ad6 bs 4 = to at *
  generalize ad6 bs 10 = fr at *
  have hblt : b < w.heap.size := h.lt (by omega)
  clear hs h hb hr hd
  obtain ⟨t0, t1, t2, t3, t4, t5⟩ := to
  obtain ⟨f0, f1, f2, f3, f4, f5⟩ := fr
  have HLN := Lib.hid hlen
  rw [hlen] at HL HA HE ⊢
  clear hlen hcap
  unfold barV at HA
  unfold ackV adZ at *
  simp only at HA ⊢
  go_enter Tryd.func18, Tryd.ntmps18
  go_wp2_with fail
  refine (HL.out _ ((Gro.refl _ _).alloc _)).mono ?_
  rintro e w' ⟨rfl, rfl⟩
  simp only [errV]
  go_wp2_with fail
  refine (HA.out _ ((Gro.refl _ _).alloc _)).mono ?_
  rintro e w2 ⟨rfl, hg2⟩
  have HZ := Lib.hid (fun w' (k : Gro none (w.alloc (.cells #[.int .u8 0, .int .u8 0, .int .u8 0, .int .u8 0, .int .u8 0, .int .u8 0, .int .u8 0, .int .u8 0, .int .u8 0, .int .u8 0, .int .u8 0, .int .u8 0, .int .i64 0, .int .i64 0, .int .u64 0] 28)) w') => (k.block w.heap.size (by simp) (by simp)).trans (heap_alloc_new w (.cells #[.int .u8 0, .int .u8 0, .int .u8 0, .int .u8 0, .int .u8 0, .int .u8 0, .int .u8 0, .int .u8 0, .int .u8 0, .int .u8 0, .int .u8 0, .int .u8 0, .int .i64 0, .int .i64 0, .int .u64 0] 28)))
  have HW : Hid (Gro none w (w.alloc (.cells #[.int .u8 0, .int .u8 0, .int .u8 0, .int .u8 0, .int .u8 0, .int .u8 0, .int .u8 0, .int .u8 0, .int .u8 0, .int .u8 0, .int .u8 0, .int .u8 0, .int .i64 0, .int .i64 0, .int .u64 0] 28))) := (Gro.refl _ _).alloc _
  have hws : w.heap.size < w2.heap.size := by have := hg2.size; simp at this; omega
  have HG2 := Lib.hid hg2
  clear hg2 HL HA
  go_wp2_with fail
  have HG4 : Hid (Gro none w ((w2.alloc (.cells #[.int .u8 t0, .int .u8 t1, .int .u8 t2, .int .u8 t3, .int .u8 t4, .int .u8 t5, .int .u8 f0, .int .u8 f1, .int .u8 f2, .int .u8 f3, .int .u8 f4, .int .u8 f5, .int .i64 T, .int .i64 S] 25)).alloc (.cells #[.int .u8 t0, .int .u8 t1, .int .u8 t2, .int .u8 t3, .int .u8 t4, .int .u8 t5, .int .u8 f0, .int .u8 f1, .int .u8 f2, .int .u8 f3, .int .u8 f4, .int .u8 f5, .int .i64 T, .int .i64 S, .int .u64 0] 28))) := HW.out.trans ((HG2.out.alloc _).alloc _)
  have HG5 : Hid (Gro none (w.alloc (.cells #[.int .u8 0, .int .u8 0, .int .u8 0, .int .u8 0, .int .u8 0, .int .u8 0, .int .u8 0, .int .u8 0, .int .u8 0, .int .u8 0, .int .u8 0, .int .u8 0, .int .i64 0, .int .i64 0, .int .u64 0] 28)) ((w2.alloc (.cells #[.int .u8 t0, .int .u8 t1, .int .u8 t2, .int .u8 t3, .int .u8 t4, .int .u8 t5, .int .u8 f0, .int .u8 f1, .int .u8 f2, .int .u8 f3, .int .u8 f4, .int .u8 f5, .int .i64 T, .int .i64 S] 25)).alloc (.cells #[.int .u8 t0, .int .u8 t1, .int .u8 t2, .int .u8 t3, .int .u8 t4, .int .u8 t5, .int .u8 f0, .int .u8 f1, .int .u8 f2, .int .u8 f3, .int .u8 f4, .int .u8 f5, .int .i64 T, .int .i64 S, .int .u64 0] 28))) := (HG2.out.alloc _).alloc _
  have h4 : ((w2.alloc (.cells #[.int .u8 t0, .int .u8 t1, .int .u8 t2, .int .u8 t3, .int .u8 t4, .int .u8 t5, .int .u8 f0, .int .u8 f1, .int .u8 f2, .int .u8 f3, .int .u8 f4, .int .u8 f5, .int .i64 T, .int .i64 S] 25)).alloc (.cells #[.int .u8 t0, .int .u8 t1, .int .u8 t2, .int .u8 t3, .int .u8 t4, .int .u8 t5, .int .u8 f0, .int .u8 f1, .int .u8 f2, .int .u8 f3, .int .u8 f4, .int .u8 f5, .int .i64 T, .int .i64 S, .int .u64 0] 28)).heap[w2.heap.size + 1]? = some (.cells #[.int .u8 t0, .int .u8 t1, .int .u8 t2, .int .u8 t3, .int .u8 t4, .int .u8 t5, .int .u8 f0, .int .u8 f1, .int .u8 f2, .int .u8 f3, .int .u8 f4, .int .u8 f5, .int .i64 T, .int .i64 S, .int .u64 (mapV bs 0)] 28 (0, 0)) := by
    have := heap_alloc_new (w2.alloc (.cells #[.int .u8 t0, .int .u8 t1, .int .u8 t2, .int .u8 t3, .int .u8 t4, .int .u8 t5, .int .u8 f0, .int .u8 f1, .int .u8 f2, .int .u8 f3, .int .u8 f4, .int .u8 f5, .int .i64 T, .int .i64 S] 25)) (.cells #[.int .u8 t0, .int .u8 t1, .int .u8 t2, .int .u8 t3, .int .u8 t4, .int .u8 t5, .int .u8 f0, .int .u8 f1, .int .u8 f2, .int .u8 f3, .int .u8 f4, .int .u8 f5, .int .i64 T, .int .i64 S, .int .u64 0] 28)
    simp only [show ∀ (w : World) (o : Obj), (w.alloc o).heap.size = w.heap.size + 1 from fun w o => by simp] at this
    exact this
  have H4 := Lib.hid h4
  generalize (w2.alloc (.cells #[.int .u8 t0, .int .u8 t1, .int .u8 t2, .int .u8 t3, .int .u8 t4, .int .u8 t5, .int .u8 f0, .int .u8 f1, .int .u8 f2, .int .u8 f3, .int .u8 f4, .int .u8 f5, .int .i64 T, .int .i64 S] 25)).alloc (.cells #[.int .u8 t0, .int .u8 t1, .int .u8 t2, .int .u8 t3, .int .u8 t4, .int .u8 t5, .int .u8 f0, .int .u8 f1, .int .u8 f2, .int .u8 f3, .int .u8 f4, .int .u8 f5, .int .i64 T, .int .i64 S, .int .u64 0] 28) = w4 at *
  generalize hg : w2.heap.size + 1 = g at *
  have hwg : w.heap.size < g := by omega
  clear h4 hg HG2
  go_loopw [27] (fun i wr => ∃ k : Nat, k ≤ 8 ∧ i = .int .i64 k ∧ Gro (some g) w4 wr ∧ wr.heap[g]? = some (.cells #[.int .u8 t0, .int .u8 t1, .int .u8 t2, .int .u8 t3, .int .u8 t4, .int .u8 t5, .int .u8 f0, .int .u8 f1, .int .u8 f2, .int .u8 f3, .int .u8 f4, .int .u8 f5, .int .i64 T, .int .i64 S, .int .u64 (mapV bs k)] 28 (0, 0))) (fun i _ => 8 - (intOf i).toNat)
  case atStart => exact ⟨0, by decide, rfl, Gro.refl _ _, H4.out⟩
  case round =>
    obtain ⟨k, hk, rfl, hgr, hrow⟩ := hrel
    have HGR := Lib.hid hgr
    have HROW := Lib.hid hrow
    by_cases h8 : k < 8
    · have hcm := cell_of_row wr g 14 _ _ _ hrow
      have hfr := frozen_of_row wr g 14 _ _ hrow
      have hy := (hgr.cell (p := ⟨b, o + (20 + k), none⟩) (by have := HG4.out.size; simp; omega) (by simp; omega)).trans (HY.out w4 HG4.out k h8)
      have hor := HOR.out k h8
      obtain ⟨⟨m0, m1⟩, y0, y1⟩ := HMV.out k
      simp only [List.getElem?_toArray, List.getElem?_cons_zero, List.getElem?_cons_succ] at hcm
      have HM1 := Lib.hid (HMV.out (k + 1)).1
      clear hrow hgr
      have hp1 : bs.getD (20 + k) 0 * 2 ^ (8 * k) < 18446744073709551616 ∧ 0 ≤ bs.getD (20 + k) 0 * 2 ^ (8 * k) := by
        have hpp : (0 : Int) ≤ 2 ^ (8 * k) := Int.le_of_lt (Int.pow_pos (by decide))
        refine ⟨?_, Int.mul_nonneg y0 hpp⟩
        have h1 := HM1.out
        have h2 : (2 : Int) ^ (8 * (k + 1)) ≤ 18446744073709551616 := by
          rcases (show k = 0 ∨ k = 1 ∨ k = 2 ∨ k = 3 ∨ k = 4 ∨ k = 5 ∨ k = 6 ∨ k = 7 from by omega) with rfl | rfl | rfl | rfl | rfl | rfl | rfl | rfl <;> decide
        have h3 : mapV bs (k + 1) = mapV bs k + bs.getD (20 + k) 0 * 2 ^ (8 * k) := rfl
        omega
      obtain ⟨q0, q1⟩ := hp1
      rw [IntKind.wrap_u64, Int.emod_eq_of_lt q1 q0] at hor
      have HNX := Lib.hid (rfl : mapV bs (k + 1) = mapV bs (k + 1))
      generalize hM : mapV bs k = M at *
      generalize hM2 : mapV bs (k + 1) = M2 at *
      have HM2 := Lib.hid hM2
      generalize bs.getD (20 + k) 0 = y at *
      have HK : Hid (k < 8) := h8
      have i0 : (0 : Int) ≤ 20 + (k : Int) := by omega
      have i1 : 20 + (k : Int) < 28 := by omega
      have i2 : 20 + k < 28 := by omega
      clear hM hM2 HM1
      go_wp2_with fail
      go_region
      refine gen_world (fun W' => Gro (some g) w4 W' ∧ W'.heap[g]? = some (.cells #[.int .u8 t0, .int .u8 t1, .int .u8 t2, .int .u8 t3, .int .u8 t4, .int .u8 t5, .int .u8 f0, .int .u8 f1, .int .u8 f2, .int .u8 f3, .int .u8 f4, .int .u8 f5, .int .i64 T, .int .i64 S, .int .u64 M2] 28 (0, 0))) ⟨?_, ?_⟩ ?_
      · exact Gro.setCell (HGR.out.drew) _ _
      · have h := heap_setCell_same wr.drew g 14 _ _ (.int .u64 M2) HROW.out
        simp only [List.setIfInBounds_toArray, List.set_cons_zero, List.set_cons_succ] at h
        exact h
      rintro w7 ⟨hg7, hr7⟩
      have HR7 := Lib.hid (And.intro hg7 hr7)
      clear hg7 hr7 hcm hfr hy hor HGR HROW
      go_wp2_with fail
      go_roundw
      case rel => exact ⟨k + 1, by have := HK.out; omega, by go_num, HR7.out.1, by rw [HM2.out]; exact HR7.out.2⟩
      case measure => have := HK.out; simp [intOf]; omega
    · obtain rfl : k = 8 := by omega
      have hc := hrow
      have HGRW := Lib.hid hgr
      have c0 := cell_of_row wr g 0 _ _ _ hrow
      have c1 := cell_of_row wr g 1 _ _ _ hrow
      have c2 := cell_of_row wr g 2 _ _ _ hrow
      have c3 := cell_of_row wr g 3 _ _ _ hrow
      have c4 := cell_of_row wr g 4 _ _ _ hrow
      have c5 := cell_of_row wr g 5 _ _ _ hrow
      have c6 := cell_of_row wr g 6 _ _ _ hrow
      have c7 := cell_of_row wr g 7 _ _ _ hrow
      have c8 := cell_of_row wr g 8 _ _ _ hrow
      have c9 := cell_of_row wr g 9 _ _ _ hrow
      have c10 := cell_of_row wr g 10 _ _ _ hrow
      have c11 := cell_of_row wr g 11 _ _ _ hrow
      have c12 := cell_of_row wr g 12 _ _ _ hrow
      have c13 := cell_of_row wr g 13 _ _ _ hrow
      have c14 := cell_of_row wr g 14 _ _ _ hrow
      simp only [List.getElem?_toArray, List.getElem?_cons_zero, List.getElem?_cons_succ] at c0 c1 c2 c3 c4 c5 c6 c7 c8 c9 c10 c11 c12 c13 c14
      have hm8 : 0 ≤ mapV bs 8 ∧ mapV bs 8 < 18446744073709551616 := (HMV.out 8).1
      have hX0 : Gro none (w.alloc (.cells #[.int .u8 0, .int .u8 0, .int .u8 0, .int .u8 0, .int .u8 0, .int .u8 0, .int .u8 0, .int .u8 0, .int .u8 0, .int .u8 0, .int .u8 0, .int .u8 0, .int .i64 0, .int .i64 0, .int .u64 0] 28)) wr := ⟨hgr.os.trans HG5.out.os, hgr.output.trans HG5.out.output, Nat.le_trans HG5.out.size hgr.size, fun k hk _ => (hgr.block k (Nat.lt_of_lt_of_le hk HG5.out.size) (by simp at hk ⊢; omega)).trans (HG5.out.block k hk (by simp))⟩
      have HX0 := Lib.hid hX0
      have HC := Lib.hid (fun w' (k : Gro none wr w') => (k.block g (blk_lt hrow) (by simp)).trans hrow)
      clear hrow hc hgr H4 HROW HOR HMV HY hX0
      have HM := Lib.hid hm8
      clear hm8
      generalize hM8 : mapV bs 8 = M at *
      have HME := Lib.hid hM8
      clear hM8
      clear c0 c1 c2 c3 c4 c5 c6 c7 c8 c9 c10 c11 c12 c13 c14
      have hne : ¬ 1 = w.heap.size := by have := HBB.out.2; omega
      have hne' : ¬ w.heap.size = 1 := by have := HBB.out.2; omega
      by_cases hok : okB T S
      · have HQ := Lib.hid (ack_any ⟨t0, t1, t2, t3, t4, t5⟩ ⟨f0, f1, f2, f3, f4, f5⟩ T S M wr hok HM.out)
        have hby := bytes_of (ack_mem (m := M) hok HTO.out HFR.out)
        have hal := ack_len ⟨t0, t1, t2, t3, t4, t5⟩ ⟨f0, f1, f2, f3, f4, f5⟩ T S M
        unfold ackV at HQ
        simp only at HQ
        generalize hY : ackL ⟨t0, t1, t2, t3, t4, t5⟩ ⟨f0, f1, f2, f3, f4, f5⟩ T S M = Y at HQ hby hal
        have HYY := Lib.hid hY
        clear hY
        have hc := HC.out _ (Gro.refl none wr)
        have c0 := cell_of_row wr g 0 _ _ _ hc
        have c1 := cell_of_row wr g 1 _ _ _ hc
        have c2 := cell_of_row wr g 2 _ _ _ hc
        have c3 := cell_of_row wr g 3 _ _ _ hc
        have c4 := cell_of_row wr g 4 _ _ _ hc
        have c5 := cell_of_row wr g 5 _ _ _ hc
        have c6 := cell_of_row wr g 6 _ _ _ hc
        have c7 := cell_of_row wr g 7 _ _ _ hc
        have c8 := cell_of_row wr g 8 _ _ _ hc
        have c9 := cell_of_row wr g 9 _ _ _ hc
        have c10 := cell_of_row wr g 10 _ _ _ hc
        have c11 := cell_of_row wr g 11 _ _ _ hc
        have c12 := cell_of_row wr g 12 _ _ _ hc
        have c13 := cell_of_row wr g 13 _ _ _ hc
        have c14 := cell_of_row wr g 14 _ _ _ hc
        simp only [List.getElem?_toArray, List.getElem?_cons_zero, List.getElem?_cons_succ] at c0 c1 c2 c3 c4 c5 c6 c7 c8 c9 c10 c11 c12 c13 c14
        clear hc
        go_wp2_with fail
        refine HQ.out.mono ?_
        rintro e wX ⟨v, rfl, hgX, hoX⟩
        obtain ⟨q, d, rfl, -, hlY, -⟩ := hoX.lie
        have HX := Lib.hid (HX0.out.trans hgX)
        have HXC := Lib.hid hgX
        have HQ2 := Lib.hid (HE.out wX (HW.out.trans HX.out) q d Y hal hlY hby)
        have HYB : Hid (P ↔ Y = bs) := ⟨fun h => HYY.out ▸ (HD.out.1 h).2, fun h => HD.out.2 ⟨hok, HYY.out ▸ h⟩⟩
        rw [hal] at HQ2 ⊢
        clear hoX hlY hby hal HQ HYY HE hgX c0 c1 c2 c3 c4 c5 c6 c7 c8 c9 c10 c11 c12 c13 c14
        by_cases heq : Y = bs
        · rw [decide_eq_true heq] at HQ2
          have hP : P := HYB.out.2 heq
          clear heq HYB hok
          go_wp2_with fail
          refine HQ2.out.mono ?_
          rintro e w' ⟨rfl, rfl⟩
          have hsh := (HS.out _ (HW.out.trans HX.out)).c1
          have hzX := HZ.out _ HX.out
          have hf : ∀ j, wX.frozen? ⟨w.heap.size, j, none⟩ = false := fun j => frozen_of_row wX w.heap.size j _ _ hzX
          have HZX := Lib.hid hzX
          have z0 := cell_of_row wX w.heap.size 0 _ _ _ hzX
          have z1 := cell_of_row wX w.heap.size 1 _ _ _ hzX
          have z2 := cell_of_row wX w.heap.size 2 _ _ _ hzX
          have z3 := cell_of_row wX w.heap.size 3 _ _ _ hzX
          have z4 := cell_of_row wX w.heap.size 4 _ _ _ hzX
          have z5 := cell_of_row wX w.heap.size 5 _ _ _ hzX
          have z6 := cell_of_row wX w.heap.size 6 _ _ _ hzX
          have z7 := cell_of_row wX w.heap.size 7 _ _ _ hzX
          have z8 := cell_of_row wX w.heap.size 8 _ _ _ hzX
          have z9 := cell_of_row wX w.heap.size 9 _ _ _ hzX
          have z10 := cell_of_row wX w.heap.size 10 _ _ _ hzX
          have z11 := cell_of_row wX w.heap.size 11 _ _ _ hzX
          have z12 := cell_of_row wX w.heap.size 12 _ _ _ hzX
          have z13 := cell_of_row wX w.heap.size 13 _ _ _ hzX
          have z14 := cell_of_row wX w.heap.size 14 _ _ _ hzX
          simp only [List.getElem?_toArray, List.getElem?_cons_zero, List.getElem?_cons_succ] at z0 z1 z2 z3 z4 z5 z6 z7 z8 z9 z10 z11 z12 z13 z14
          clear hzX
          have hcX := HC.out _ HXC.out
          have c0 := cell_of_row wX g 0 _ _ _ hcX
          have c1 := cell_of_row wX g 1 _ _ _ hcX
          have c2 := cell_of_row wX g 2 _ _ _ hcX
          have c3 := cell_of_row wX g 3 _ _ _ hcX
          have c4 := cell_of_row wX g 4 _ _ _ hcX
          have c5 := cell_of_row wX g 5 _ _ _ hcX
          have c6 := cell_of_row wX g 6 _ _ _ hcX
          have c7 := cell_of_row wX g 7 _ _ _ hcX
          have c8 := cell_of_row wX g 8 _ _ _ hcX
          have c9 := cell_of_row wX g 9 _ _ _ hcX
          have c10 := cell_of_row wX g 10 _ _ _ hcX
          have c11 := cell_of_row wX g 11 _ _ _ hcX
          have c12 := cell_of_row wX g 12 _ _ _ hcX
          have c13 := cell_of_row wX g 13 _ _ _ hcX
          have c14 := cell_of_row wX g 14 _ _ _ hcX
          simp only [List.getElem?_toArray, List.getElem?_cons_zero, List.getElem?_cons_succ] at c0 c1 c2 c3 c4 c5 c6 c7 c8 c9 c10 c11 c12 c13 c14
          clear hcX HQ2 hsh
          go_wp2_with fail
          clear hf c0 c1 c2 c3 c4 c5 c6 c7 c8 c9 c10 c11 c12 c13 c14
          refine gen_world (fun W' => Gro (some w.heap.size) wX W' ∧ W'.heap[w.heap.size]? = some (.cells #[.int .u8 t0, .int .u8 t1, .int .u8 t2, .int .u8 t3, .int .u8 t4, .int .u8 t5, .int .u8 f0, .int .u8 f1, .int .u8 f2, .int .u8 f3, .int .u8 f4, .int .u8 f5, .int .i64 T, .int .i64 S, .int .u64 M] 28 (0, 0))) ⟨?_, ?_⟩ ?_
          · repeat (first | with_reducible exact Gro.refl _ _ | with_reducible refine Gro.drew ?_ | with_reducible refine Gro.setCell ?_ _ _)
          · (try rw [heap_of_drew])
            with_reducible refine store15 _ _ _ (.int .u8 0) (.int .u8 0) (.int .u8 0) (.int .u8 0) (.int .u8 0) (.int .u8 0) (.int .u8 0) (.int .u8 0) (.int .u8 0) (.int .u8 0) (.int .u8 0) (.int .u8 0) (.int .i64 0) (.int .i64 0) (.int .u64 0)  _ _ _ _ _ _ _ _ _ _ _ _ _ _ _  HZX.out
          clear z0 z1 z2 z3 z4 z5 z6 z7 z8 z9 z10 z11 z12 z13 z14
          rintro w6 ⟨hg6, hz6⟩
          have d0 := cell_of_row w6 w.heap.size 0 _ _ _ hz6
          have d1 := cell_of_row w6 w.heap.size 1 _ _ _ hz6
          have d2 := cell_of_row w6 w.heap.size 2 _ _ _ hz6
          have d3 := cell_of_row w6 w.heap.size 3 _ _ _ hz6
          have d4 := cell_of_row w6 w.heap.size 4 _ _ _ hz6
          have d5 := cell_of_row w6 w.heap.size 5 _ _ _ hz6
          have d6 := cell_of_row w6 w.heap.size 6 _ _ _ hz6
          have d7 := cell_of_row w6 w.heap.size 7 _ _ _ hz6
          have d8 := cell_of_row w6 w.heap.size 8 _ _ _ hz6
          have d9 := cell_of_row w6 w.heap.size 9 _ _ _ hz6
          have d10 := cell_of_row w6 w.heap.size 10 _ _ _ hz6
          have d11 := cell_of_row w6 w.heap.size 11 _ _ _ hz6
          have d12 := cell_of_row w6 w.heap.size 12 _ _ _ hz6
          have d13 := cell_of_row w6 w.heap.size 13 _ _ _ hz6
          have d14 := cell_of_row w6 w.heap.size 14 _ _ _ hz6
          simp only [List.getElem?_toArray, List.getElem?_cons_zero, List.getElem?_cons_succ] at d0 d1 d2 d3 d4 d5 d6 d7 d8 d9 d10 d11 d12 d13 d14
          have HG6 := Lib.hid hg6
          clear hg6 hz6
          (try go_wp2_with fail)
          (try simp only [Exit.inBlock, Exit.then])
          refine bodyPost_ret (by simp [results, Tryd.results18, go_sem, d0, d1, d2, d3, d4, d5, d6, d7, d8, d9, d10, d11, d12, d13, d14]; try rfl) rfl ?_
          refine ⟨fun _ => by rw [HME.out], fun h => absurd hP h, ?_⟩
          have h1 := HW.out.trans HX.out
          have h6 := HG6.out
          exact ⟨h6.os.trans h1.os, h6.output.trans h1.output, Nat.le_trans h1.size h6.size, fun k hk _ => (h6.block k (Nat.lt_of_lt_of_le hk h1.size) (by simp; omega)).trans (h1.block k hk (by simp))⟩
        · rw [decide_eq_false heq] at HQ2
          have hnP : ¬ P := fun h => heq (HYB.out.1 h)
          clear heq HYB hok
          go_wp2_with fail
          refine HQ2.out.mono ?_
          rintro e w' ⟨rfl, rfl⟩
          have hsh := (HS.out _ (HW.out.trans HX.out)).c1
          have hzX := HZ.out _ HX.out
          have hf : ∀ j, wX.frozen? ⟨w.heap.size, j, none⟩ = false := fun j => frozen_of_row wX w.heap.size j _ _ hzX
          have HZX := Lib.hid hzX
          have z0 := cell_of_row wX w.heap.size 0 _ _ _ hzX
          have z1 := cell_of_row wX w.heap.size 1 _ _ _ hzX
          have z2 := cell_of_row wX w.heap.size 2 _ _ _ hzX
          have z3 := cell_of_row wX w.heap.size 3 _ _ _ hzX
          have z4 := cell_of_row wX w.heap.size 4 _ _ _ hzX
          have z5 := cell_of_row wX w.heap.size 5 _ _ _ hzX
          have z6 := cell_of_row wX w.heap.size 6 _ _ _ hzX
          have z7 := cell_of_row wX w.heap.size 7 _ _ _ hzX
          have z8 := cell_of_row wX w.heap.size 8 _ _ _ hzX
          have z9 := cell_of_row wX w.heap.size 9 _ _ _ hzX
          have z10 := cell_of_row wX w.heap.size 10 _ _ _ hzX
          have z11 := cell_of_row wX w.heap.size 11 _ _ _ hzX
          have z12 := cell_of_row wX w.heap.size 12 _ _ _ hzX
          have z13 := cell_of_row wX w.heap.size 13 _ _ _ hzX
          have z14 := cell_of_row wX w.heap.size 14 _ _ _ hzX
          simp only [List.getElem?_toArray, List.getElem?_cons_zero, List.getElem?_cons_succ] at z0 z1 z2 z3 z4 z5 z6 z7 z8 z9 z10 z11 z12 z13 z14
          clear hzX
          clear HQ2
          go_wp2_with fail
          go_region
          clear hf hsh
          refine gen_world (fun W' => Gro (some w.heap.size) wX W' ∧ W'.heap[w.heap.size]? = some (.cells #[.int .u8 0, .int .u8 0, .int .u8 0, .int .u8 0, .int .u8 0, .int .u8 0, .int .u8 0, .int .u8 0, .int .u8 0, .int .u8 0, .int .u8 0, .int .u8 0, .int .i64 0, .int .i64 0, .int .u64 0] 28 (0, 0))) ⟨?_, ?_⟩ ?_
          · repeat (first | with_reducible exact Gro.refl _ _ | with_reducible refine Gro.drew ?_ | with_reducible refine Gro.setCell ?_ _ _)
          · (try rw [heap_of_drew])
            with_reducible refine store15 _ _ _ (.int .u8 0) (.int .u8 0) (.int .u8 0) (.int .u8 0) (.int .u8 0) (.int .u8 0) (.int .u8 0) (.int .u8 0) (.int .u8 0) (.int .u8 0) (.int .u8 0) (.int .u8 0) (.int .i64 0) (.int .i64 0) (.int .u64 0)  _ _ _ _ _ _ _ _ _ _ _ _ _ _ _  HZX.out
          clear z0 z1 z2 z3 z4 z5 z6 z7 z8 z9 z10 z11 z12 z13 z14
          rintro w6 ⟨hg6, hz6⟩
          have d0 := cell_of_row w6 w.heap.size 0 _ _ _ hz6
          have d1 := cell_of_row w6 w.heap.size 1 _ _ _ hz6
          have d2 := cell_of_row w6 w.heap.size 2 _ _ _ hz6
          have d3 := cell_of_row w6 w.heap.size 3 _ _ _ hz6
          have d4 := cell_of_row w6 w.heap.size 4 _ _ _ hz6
          have d5 := cell_of_row w6 w.heap.size 5 _ _ _ hz6
          have d6 := cell_of_row w6 w.heap.size 6 _ _ _ hz6
          have d7 := cell_of_row w6 w.heap.size 7 _ _ _ hz6
          have d8 := cell_of_row w6 w.heap.size 8 _ _ _ hz6
          have d9 := cell_of_row w6 w.heap.size 9 _ _ _ hz6
          have d10 := cell_of_row w6 w.heap.size 10 _ _ _ hz6
          have d11 := cell_of_row w6 w.heap.size 11 _ _ _ hz6
          have d12 := cell_of_row w6 w.heap.size 12 _ _ _ hz6
          have d13 := cell_of_row w6 w.heap.size 13 _ _ _ hz6
          have d14 := cell_of_row w6 w.heap.size 14 _ _ _ hz6
          simp only [List.getElem?_toArray, List.getElem?_cons_zero, List.getElem?_cons_succ] at d0 d1 d2 d3 d4 d5 d6 d7 d8 d9 d10 d11 d12 d13 d14
          have HG6 := Lib.hid hg6
          clear hg6 hz6
          (try go_wp2_with fail)
          (try simp only [Exit.inBlock, Exit.then])
          refine bodyPost_ret (by simp [results, Tryd.results18, go_sem, d0, d1, d2, d3, d4, d5, d6, d7, d8, d9, d10, d11, d12, d13, d14]; try rfl) rfl ?_
          refine ⟨fun h => absurd h hnP, fun _ => rfl, ?_⟩
          have h1 := HW.out.trans HX.out
          have h6 := HG6.out
          exact ⟨h6.os.trans h1.os, h6.output.trans h1.output, Nat.le_trans h1.size h6.size, fun k hk _ => (h6.block k (Nat.lt_of_lt_of_le hk h1.size) (by simp; omega)).trans (h1.block k hk (by simp))⟩
      · have HQ := Lib.hid (ack_bad ⟨t0, t1, t2, t3, t4, t5⟩ ⟨f0, f1, f2, f3, f4, f5⟩ T S M _ wr hok (HS.out _ (HW.out.trans HX0.out)).c2 (by have := HBB.out.2; have := HW.out.size; have := HX0.out.size; omega))
        have hnP : ¬ P := fun h => hok (HD.out.1 h).1
        unfold ackV at HQ
        simp only at HQ
        have hc := HC.out _ (Gro.refl none wr)
        have c0 := cell_of_row wr g 0 _ _ _ hc
        have c1 := cell_of_row wr g 1 _ _ _ hc
        have c2 := cell_of_row wr g 2 _ _ _ hc
        have c3 := cell_of_row wr g 3 _ _ _ hc
        have c4 := cell_of_row wr g 4 _ _ _ hc
        have c5 := cell_of_row wr g 5 _ _ _ hc
        have c6 := cell_of_row wr g 6 _ _ _ hc
        have c7 := cell_of_row wr g 7 _ _ _ hc
        have c8 := cell_of_row wr g 8 _ _ _ hc
        have c9 := cell_of_row wr g 9 _ _ _ hc
        have c10 := cell_of_row wr g 10 _ _ _ hc
        have c11 := cell_of_row wr g 11 _ _ _ hc
        have c12 := cell_of_row wr g 12 _ _ _ hc
        have c13 := cell_of_row wr g 13 _ _ _ hc
        have c14 := cell_of_row wr g 14 _ _ _ hc
        simp only [List.getElem?_toArray, List.getElem?_cons_zero, List.getElem?_cons_succ] at c0 c1 c2 c3 c4 c5 c6 c7 c8 c9 c10 c11 c12 c13 c14
        clear hc
        go_wp2_with fail
        refine HQ.out.mono ?_
        rintro e wX ⟨rfl, hgX⟩
        have HX := Lib.hid (HX0.out.trans hgX)
        have hsh := (HS.out _ (HW.out.trans HX.out)).c1
        have hzX := HZ.out _ HX.out
        have hf : ∀ j, wX.frozen? ⟨w.heap.size, j, none⟩ = false := fun j => frozen_of_row wX w.heap.size j _ _ hzX
        have HZX := Lib.hid hzX
        have z0 := cell_of_row wX w.heap.size 0 _ _ _ hzX
        have z1 := cell_of_row wX w.heap.size 1 _ _ _ hzX
        have z2 := cell_of_row wX w.heap.size 2 _ _ _ hzX
        have z3 := cell_of_row wX w.heap.size 3 _ _ _ hzX
        have z4 := cell_of_row wX w.heap.size 4 _ _ _ hzX
        have z5 := cell_of_row wX w.heap.size 5 _ _ _ hzX
        have z6 := cell_of_row wX w.heap.size 6 _ _ _ hzX
        have z7 := cell_of_row wX w.heap.size 7 _ _ _ hzX
        have z8 := cell_of_row wX w.heap.size 8 _ _ _ hzX
        have z9 := cell_of_row wX w.heap.size 9 _ _ _ hzX
        have z10 := cell_of_row wX w.heap.size 10 _ _ _ hzX
        have z11 := cell_of_row wX w.heap.size 11 _ _ _ hzX
        have z12 := cell_of_row wX w.heap.size 12 _ _ _ hzX
        have z13 := cell_of_row wX w.heap.size 13 _ _ _ hzX
        have z14 := cell_of_row wX w.heap.size 14 _ _ _ hzX
        simp only [List.getElem?_toArray, List.getElem?_cons_zero, List.getElem?_cons_succ] at z0 z1 z2 z3 z4 z5 z6 z7 z8 z9 z10 z11 z12 z13 z14
        clear hzX
        clear HQ hgX c0 c1 c2 c3 c4 c5 c6 c7 c8 c9 c10 c11 c12 c13 c14
        go_wp2_with fail
        go_region
        clear hf hsh
        refine gen_world (fun W' => Gro (some w.heap.size) wX W' ∧ W'.heap[w.heap.size]? = some (.cells #[.int .u8 0, .int .u8 0, .int .u8 0, .int .u8 0, .int .u8 0, .int .u8 0, .int .u8 0, .int .u8 0, .int .u8 0, .int .u8 0, .int .u8 0, .int .u8 0, .int .i64 0, .int .i64 0, .int .u64 0] 28 (0, 0))) ⟨?_, ?_⟩ ?_
        · repeat (first | with_reducible exact Gro.refl _ _ | with_reducible refine Gro.drew ?_ | with_reducible refine Gro.setCell ?_ _ _)
        · (try rw [heap_of_drew])
          with_reducible refine store15 _ _ _ (.int .u8 0) (.int .u8 0) (.int .u8 0) (.int .u8 0) (.int .u8 0) (.int .u8 0) (.int .u8 0) (.int .u8 0) (.int .u8 0) (.int .u8 0) (.int .u8 0) (.int .u8 0) (.int .i64 0) (.int .i64 0) (.int .u64 0)  _ _ _ _ _ _ _ _ _ _ _ _ _ _ _  HZX.out
        clear z0 z1 z2 z3 z4 z5 z6 z7 z8 z9 z10 z11 z12 z13 z14
        rintro w6 ⟨hg6, hz6⟩
        have d0 := cell_of_row w6 w.heap.size 0 _ _ _ hz6
        have d1 := cell_of_row w6 w.heap.size 1 _ _ _ hz6
        have d2 := cell_of_row w6 w.heap.size 2 _ _ _ hz6
        have d3 := cell_of_row w6 w.heap.size 3 _ _ _ hz6
        have d4 := cell_of_row w6 w.heap.size 4 _ _ _ hz6
        have d5 := cell_of_row w6 w.heap.size 5 _ _ _ hz6
        have d6 := cell_of_row w6 w.heap.size 6 _ _ _ hz6
        have d7 := cell_of_row w6 w.heap.size 7 _ _ _ hz6
        have d8 := cell_of_row w6 w.heap.size 8 _ _ _ hz6
        have d9 := cell_of_row w6 w.heap.size 9 _ _ _ hz6
        have d10 := cell_of_row w6 w.heap.size 10 _ _ _ hz6
        have d11 := cell_of_row w6 w.heap.size 11 _ _ _ hz6
        have d12 := cell_of_row w6 w.heap.size 12 _ _ _ hz6
        have d13 := cell_of_row w6 w.heap.size 13 _ _ _ hz6
        have d14 := cell_of_row w6 w.heap.size 14 _ _ _ hz6
        simp only [List.getElem?_toArray, List.getElem?_cons_zero, List.getElem?_cons_succ] at d0 d1 d2 d3 d4 d5 d6 d7 d8 d9 d10 d11 d12 d13 d14
        have HG6 := Lib.hid hg6
        clear hg6 hz6
        (try go_wp2_with fail)
        (try simp only [Exit.inBlock, Exit.then])
        refine bodyPost_ret (by simp [results, Tryd.results18, go_sem, d0, d1, d2, d3, d4, d5, d6, d7, d8, d9, d10, d11, d12, d13, d14]; try rfl) rfl ?_
        refine ⟨fun h => absurd h hnP, fun _ => rfl, ?_⟩
        have h1 := HW.out.trans HX.out
        have h6 := HG6.out
        exact ⟨h6.os.trans h1.os, h6.output.trans h1.output, Nat.le_trans h1.size h6.size, fun k hk _ => (h6.block k (Nat.lt_of_lt_of_le hk h1.size) (by simp; omega)).trans (h1.block k hk (by simp))⟩
end Go.Proofs.YtadcpoglkmklhaaDoor
