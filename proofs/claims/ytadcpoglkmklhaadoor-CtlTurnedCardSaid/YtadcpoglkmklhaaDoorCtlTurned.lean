/-
  THE WALK OF CtlTurned: a control frame with one bit turned is another one, or none; it answers true. No condition but the fourteen sentinels' own ('Sent') and that the frame's numbers are bytes.
-/
import Derived.Test.YtadcpoglkmklhaaDoorCtlC
import Derived.Test.YtadcpoglkmklhaaDoorCtlSame
import Derived.Test.YtadcpoglkmklhaaDoorFrame
import Derived.Laws.OwnMore
namespace Go.Proofs.YtadcpoglkmklhaaDoor
open Go.RowKit

def ackRow (to fr : Ad) (tid seq m : Int) : Array Value := #[.int .u8 to.b0, .int .u8 to.b1, .int .u8 to.b2, .int .u8 to.b3, .int .u8 to.b4, .int .u8 to.b5, .int .u8 fr.b0, .int .u8 fr.b1, .int .u8 fr.b2, .int .u8 fr.b3, .int .u8 fr.b4, .int .u8 fr.b5, .int .i64 tid, .int .i64 seq, .int .u64 m]

theorem xor_all : ∀ n : Fin 256, ∀ j : Fin 8, n.val ^^^ 2 ^ j.val ≠ n.val ∧ n.val ^^^ 2 ^ j.val < 256 := by decide +kernel
theorem xor_turn (y : Int) (j : Nat) (h : 0 ≤ y ∧ y < 256) (hj : j < 8) : (0 ≤ bits .xor .u8 y (2 ^ j % 256) ∧ bits .xor .u8 y (2 ^ j % 256) < 256) ∧ bits .xor .u8 y (2 ^ j % 256) ≠ y := by
  obtain ⟨n, rfl⟩ := Int.eq_ofNat_of_zero_le h.1
  have hp : 2 ^ j < 256 := by
    rcases (show j = 0 ∨ j = 1 ∨ j = 2 ∨ j = 3 ∨ j = 4 ∨ j = 5 ∨ j = 6 ∨ j = 7 from by omega) with rfl | rfl | rfl | rfl | rfl | rfl | rfl | rfl <;> decide
  have e : ((2 : Int) ^ j % 256) = ((2 ^ j : Nat) : Int) := by
    have h1 : (2 : Int) ^ j = ((2 ^ j : Nat) : Int) := (Int.natCast_pow 2 j).symm
    rw [h1]
    exact Int.emod_eq_of_lt (Int.natCast_nonneg _) (Int.ofNat_lt.2 hp)
  rw [e, u8_xor_nat n (2 ^ j) (by omega) hp]
  have := xor_all ⟨n, by omega⟩ ⟨j, hj⟩
  simp only at this
  omega

set_option maxHeartbeats 4000000 in
set_option maxRecDepth 100000 in
theorem turned_any (to fr : Ad) (tid seq m bit : Int) (A : Nat → Addr) (W : World) (hs : Four W.heap.size W A) (hto : ∀ x ∈ adL to, 0 ≤ x ∧ x < 256) (hfr : ∀ x ∈ adL fr, 0 ≤ x ∧ x < 256) (hm : 0 ≤ m ∧ m < 18446744073709551616) :
    Calls Tryd.prog 4 #[ackV to fr tid seq m, .int .i64 bit] W fun e w' => e = .returned (.bool true) ∧ Far W.heap.size W w' := by
  obtain ⟨wb, hwb⟩ : ∃ wb, wb = W.alloc (.cells (ackRow to fr tid seq m) 28) := ⟨_, rfl⟩
  have hgb : Gro none W wb := hwb ▸ (Gro.refl _ _).alloc _
  have HBX := Lib.hid (fun w' (k : Gro none wb w') => show w'.heap[W.heap.size]? = some (.cells (ackRow to fr tid seq m) 28 (0, 0)) from (k.block W.heap.size (by rw [hwb]; simp) (by simp)).trans (by rw [hwb]; exact heap_alloc_new W _))
  have HB := Lib.hid hwb
  have HG := Lib.hid hgb
  have hsz : W.heap.size < wb.heap.size := by rw [hwb]; simp
  have HS := Lib.hid (fun w' (k : Gro none W w') => (show Four W.heap.size w' A from hs.far fun i hi => k.block i hi (by simp)))
  have HBIG := Lib.hid hs.big
  clear hwb hgb hs
  obtain ⟨q, hq⟩ := Int.eq_ofNat_of_zero_le (Int.emod_nonneg bit (show (224 : Int) ≠ 0 by decide))
  have hq224 : q < 224 := by have := Int.emod_lt_of_pos bit (show (0 : Int) < 224 by decide); omega
  have HQ := Lib.hid (fun w => number_at bit 224 q w hq (by decide) (by decide))
  clear hq
  have HAC : Hid (¬ okB tid seq → ∀ w', Gro none W w' → Calls Tryd.prog 10 #[ackV to fr tid seq m] w' fun e w'' => (∃ a, e = .returned (.tuple #[.slice none 0 0, .iface 93 (.pointer (some a))])) ∧ Gro none w' w'') := fun hok w' k =>
    (ack_bad to fr tid seq m _ w' hok (HS.out w' k).c2 (by have := HBIG.out; have := k.size; omega)).mono fun e w'' ⟨he, hg⟩ => ⟨⟨_, he⟩, hg⟩
  have HAO : Hid (okB tid seq → ∀ w', Calls Tryd.prog 10 #[ackV to fr tid seq m] w' fun e w'' => ∃ v, e = .returned (.tuple #[v, .nilIface]) ∧ Gro none w' w'' ∧ Own w'.heap.size w'' v (ackL to fr tid seq m)) := fun hok w' => ack_any to fr tid seq m w' hok hm
  have HTO := Lib.hid (And.intro hto (And.intro hfr hm))
  clear hto hfr hm
  obtain ⟨t0, t1, t2, t3, t4, t5⟩ := to
  obtain ⟨f0, f1, f2, f3, f4, f5⟩ := fr
  unfold ackRow at *
  unfold ackV at *
  simp only at *
  go_enter Tryd.func4, Tryd.ntmps4
  go_wp2_with fail
  rw [← HB.out]
  refine (first_any wb).mono ?_
  rintro e w1 ⟨rfl, hg1⟩
  have HG1 := Lib.hid hg1
  have hbx := HBX.out _ hg1
  have b0 := cell_of_row w1 W.heap.size 0 _ _ _ hbx
  have b1 := cell_of_row w1 W.heap.size 1 _ _ _ hbx
  have b2 := cell_of_row w1 W.heap.size 2 _ _ _ hbx
  have b3 := cell_of_row w1 W.heap.size 3 _ _ _ hbx
  have b4 := cell_of_row w1 W.heap.size 4 _ _ _ hbx
  have b5 := cell_of_row w1 W.heap.size 5 _ _ _ hbx
  have b6 := cell_of_row w1 W.heap.size 6 _ _ _ hbx
  have b7 := cell_of_row w1 W.heap.size 7 _ _ _ hbx
  have b8 := cell_of_row w1 W.heap.size 8 _ _ _ hbx
  have b9 := cell_of_row w1 W.heap.size 9 _ _ _ hbx
  have b10 := cell_of_row w1 W.heap.size 10 _ _ _ hbx
  have b11 := cell_of_row w1 W.heap.size 11 _ _ _ hbx
  have b12 := cell_of_row w1 W.heap.size 12 _ _ _ hbx
  have b13 := cell_of_row w1 W.heap.size 13 _ _ _ hbx
  have b14 := cell_of_row w1 W.heap.size 14 _ _ _ hbx
  simp only [List.getElem?_toArray, List.getElem?_cons_zero, List.getElem?_cons_succ] at b0 b1 b2 b3 b4 b5 b6 b7 b8 b9 b10 b11 b12 b13 b14
  clear hg1 hbx
  by_cases hok : okB tid seq
  · go_wp2_with fail
    refine (HAO.out hok w1).mono ?_
    rintro e w2 ⟨v, rfl, hg2, ho2⟩
    clear HAC HAO b0 b1 b2 b3 b4 b5 b6 b7 b8 b9 b10 b11 b12 b13 b14
    have hlen := ack_len ⟨t0, t1, t2, t3, t4, t5⟩ ⟨f0, f1, f2, f3, f4, f5⟩ tid seq m
    have hby := bytes_of (ack_mem (m := m) hok HTO.out.1 HTO.out.2.1)
    generalize hL : ackL ⟨t0, t1, t2, t3, t4, t5⟩ ⟨f0, f1, f2, f3, f4, f5⟩ tid seq m = L at *
    have HL := Lib.hid hL
    clear hL
    have HO := ho2
    unfold Own at HO
    rw [hlen] at HO
    obtain ⟨g, cap, rfl⟩ : ∃ g cap, v = .slice (some ⟨g, 0, none⟩) 28 cap := by
      rcases HO.2 with ⟨_, h0⟩ | ⟨g, cap, _, rfl, _⟩
      · omega
      · exact ⟨g, cap, rfl⟩
    have hc := HO.cellAt (q / 8) (by omega)
    have hf := HO.frozenAt (q / 8)
    have HSTO := Lib.hid (fun u => HO.stored (q / 8) u)
    have hgB : w1.heap.size ≤ g := by
      rcases HO.2 with ⟨h, _⟩ | ⟨g', cap', _, h, hb, _⟩
      · cases h
      · cases h; exact hb
    have hl2 : L[q / 8]? = some (L.getD (q / 8) 0) := by
      rw [List.getD_eq_getElem?_getD, List.getElem?_eq_getElem (by omega)]; rfl
    rw [List.getElem?_map, hl2] at hc
    simp only [Option.map_some] at hc
    have HY := Lib.hid (hby (q / 8))
    generalize hy : L.getD (q / 8) 0 = y at *
    have HYE := Lib.hid hy
    have HG2 := Lib.hid hg2
    have HBY := Lib.hid hby
    have HLN := Lib.hid hlen
    clear hy hl2 HO ho2 hg2 hby hlen
    go_wp2_with fail
    refine (HQ.out _).mono ?_
    rintro e w' ⟨rfl, rfl⟩
    have i0 : q / 8 < 28 := by omega
    go_wp2_with fail
    have hv := xor_turn y (q % 8) HY.out (by omega)
    generalize bits .xor .u8 y (2 ^ (q % 8) % 256) = u at *
    have hOL : Own w1.heap.size (w2.setCell ⟨g, q / 8, none⟩ (.int .u8 u)) (.slice (some ⟨g, 0, none⟩) 28 cap) (L.set (q / 8) u) := by
      have h := (HSTO.out (.int .u8 u)).1
      rw [← List.map_set] at h
      unfold Own
      rw [List.length_set, HLN.out]
      exact h
    have hne : L.set (q / 8) u ≠ L := by
      intro e
      have h1 : (L.set (q / 8) u).getD (q / 8) 0 = L.getD (q / 8) 0 := by rw [e]
      rw [HYE.out, List.getD_eq_getElem?_getD, List.getElem?_set_self (by rw [HLN.out]; exact i0)] at h1
      exact hv.2 h1
    have hby2 : Bytes (L.set (q / 8) u) := by
      intro k
      by_cases hk : k = q / 8
      · subst hk
        rw [List.getD_eq_getElem?_getD, List.getElem?_set_self (by rw [HLN.out]; exact i0)]
        exact hv.1
      · rw [List.getD_eq_getElem?_getD, List.getElem?_set_ne (Ne.symm hk), ← List.getD_eq_getElem?_getD]
        exact HBY.out k
    have hg3 : Gro none w1 (w2.setCell ⟨g, q / 8, none⟩ (.int .u8 u)) := Gro.setNew HG2.out (p := ⟨g, q / 8, none⟩) hgB _
    have hlen2 : (L.set (q / 8) u).length = 28 := by rw [List.length_set, HLN.out]
    generalize w2.setCell ⟨g, q / 8, none⟩ (.int .u8 u) = w3 at *
    generalize L.set (q / 8) u = L2 at *
    have HG3 := Lib.hid ((HG.out.trans HG1.out).trans hg3)
    have HB3 := Lib.hid (HG1.out.trans hg3)
    obtain ⟨p', cap', e', hcap, hli, -⟩ := hOL.lie
    rw [hlen2] at e'
    injection e' with e1 e2 e3
    subst e1 e3
    have HLI := Lib.hid hli
    have HCP := Lib.hid hcap
    have HNE := Lib.hid hne
    have HB2 := Lib.hid hby2
    have HL2 := Lib.hid hlen2
    have HIDA := Lib.hid (fun h : ackL ⟨t0, t1, t2, t3, t4, t5⟩ ⟨f0, f1, f2, f3, f4, f5⟩ tid seq m = L2 => HNE.out (h.symm.trans HL.out))
    clear hv hOL hne hby2 hg3 hlen2 hli hcap hc hf HSTO hgB HY HYE HBY HLN HL HG2 i0 e2
    by_cases hr : longR L2 148 28 = 0
    · have HR := Lib.hid (readAck_any (some ⟨g, 0, none⟩) cap L2 W.heap.size A w3 (HS.out w3 HG3.out) HG3.out.size HCP.out HLI.out HB2.out hr)
      rw [HL2.out] at HR
      refine HR.out.mono ?_
      rintro e w4 ⟨hyes, hno, hg4⟩
      have HG4 := Lib.hid hg4
      by_cases hack : isAck L2
      · obtain rfl := hyes hack
        have HSA := Lib.hid (fun w' => sameAck_any (ad6 L2 4) (ad6 L2 10) ⟨t0, t1, t2, t3, t4, t5⟩ ⟨f0, f1, f2, f3, f4, f5⟩ (bTid L2) (bSeq L2) (mapV L2 8) tid seq m w')
        have hdec : decide (ad6 L2 4 = ⟨t0, t1, t2, t3, t4, t5⟩ ∧ ad6 L2 10 = ⟨f0, f1, f2, f3, f4, f5⟩ ∧ bTid L2 = tid ∧ bSeq L2 = seq ∧ mapV L2 8 = m) = false := by
          apply decide_eq_false
          rintro ⟨a1, a2, a3, a4, a5⟩
          have := hack.2
          rw [a1, a2, a3, a4, a5] at this
          exact HIDA.out this
        rw [hdec] at HSA
        clear hdec hyes hno hack hg4 HR
        generalize ad6 L2 4 = s4 at *
        generalize ad6 L2 10 = s10 at *
        generalize bTid L2 = sT at *
        generalize bSeq L2 = sS at *
        generalize mapV L2 8 = sM at *
        obtain ⟨s0, s1, s2, s3, s4, s5⟩ := s4
        obtain ⟨r0, r1, r2, r3, r4, r5⟩ := s10
        unfold ackV at HSA ⊢
        simp only at HSA ⊢
        have hbx := HBX.out w4 (HB3.out.trans HG4.out)
        have hsz4 : W.heap.size < w4.heap.size := blk_lt hbx
        have b0 := cell_of_row w4 W.heap.size 0 _ _ _ hbx
        have b1 := cell_of_row w4 W.heap.size 1 _ _ _ hbx
        have b2 := cell_of_row w4 W.heap.size 2 _ _ _ hbx
        have b3 := cell_of_row w4 W.heap.size 3 _ _ _ hbx
        have b4 := cell_of_row w4 W.heap.size 4 _ _ _ hbx
        have b5 := cell_of_row w4 W.heap.size 5 _ _ _ hbx
        have b6 := cell_of_row w4 W.heap.size 6 _ _ _ hbx
        have b7 := cell_of_row w4 W.heap.size 7 _ _ _ hbx
        have b8 := cell_of_row w4 W.heap.size 8 _ _ _ hbx
        have b9 := cell_of_row w4 W.heap.size 9 _ _ _ hbx
        have b10 := cell_of_row w4 W.heap.size 10 _ _ _ hbx
        have b11 := cell_of_row w4 W.heap.size 11 _ _ _ hbx
        have b12 := cell_of_row w4 W.heap.size 12 _ _ _ hbx
        have b13 := cell_of_row w4 W.heap.size 13 _ _ _ hbx
        have b14 := cell_of_row w4 W.heap.size 14 _ _ _ hbx
        simp only [List.getElem?_toArray, List.getElem?_cons_zero, List.getElem?_cons_succ] at b0 b1 b2 b3 b4 b5 b6 b7 b8 b9 b10 b11 b12 b13 b14
        clear hbx hr
        go_wp2_with fail
        refine (HSA.out _).mono ?_
        rintro e w5 ⟨rfl, hg5⟩
        have HG5 := Lib.hid hg5
        clear hg5
        go_wp2_with fail
        go_ret
        exact ⟨rfl, (Far.refl _ _).gro ((HG3.out.trans HG4.out).trans (((Gro.refl _ _).alloc _).trans HG5.out)) (Nat.le_refl _) (fun _ e => by cases e)⟩
      · obtain rfl := hno hack
        clear hyes hno hack hg4 HR hr
        unfold ackV adZ
        simp only [errV]
        go_wp2_with fail
        go_ret
        exact ⟨rfl, (Far.refl _ _).gro ((HG3.out.trans HG4.out).alloc _) (Nat.le_refl _) (fun _ e => by cases e)⟩
    · have HR := Lib.hid (readAck_bad (some ⟨g, 0, none⟩) cap L2 W.heap.size A w3 (HS.out w3 HG3.out) HG3.out.size HLI.out hr)
      obtain ⟨a, ha⟩ := errV_pos A hr
      rw [HL2.out, ha] at HR
      refine HR.out.mono ?_
      rintro e w4 ⟨rfl, hg4⟩
      have HG4 := Lib.hid hg4
      clear HR hr ha hg4
      unfold ackV adZ
      simp only
      go_wp2_with fail
      go_ret
      exact ⟨rfl, (Far.refl _ _).gro ((HG3.out.trans HG4.out).alloc _) (Nat.le_refl _) (fun _ e => by cases e)⟩
  · go_wp2_with fail
    refine (HAC.out hok w1 (HG.out.trans HG1.out)).mono ?_
    rintro e w2 ⟨⟨a, rfl⟩, hg2⟩
    go_wp2_with fail
    go_ret
    exact ⟨rfl, (Far.refl _ _).gro (HG.out.trans (HG1.out.trans hg2)) (Nat.le_refl _) (fun _ e => by cases e)⟩
end Go.Proofs.YtadcpoglkmklhaaDoor
