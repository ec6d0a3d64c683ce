/-
  THE WALKS OF package ctl, WRITING, MORE: BarBytes, AckBytes, PollBytes, Kind, the chapter's examples. Conditions: the fourteen sentinels' own ('Sent'), where an error is told.
-/
import Derived.Test.YtadcpoglkmklhaaDoorCtl
namespace Go.Proofs.YtadcpoglkmklhaaDoor
open Go.RowKit

def barV (to fr : Ad) (tid seq : Int) : Value := .agg #[.int .u8 to.b0, .int .u8 to.b1, .int .u8 to.b2, .int .u8 to.b3, .int .u8 to.b4, .int .u8 to.b5, .int .u8 fr.b0, .int .u8 fr.b1, .int .u8 fr.b2, .int .u8 fr.b3, .int .u8 fr.b4, .int .u8 fr.b5, .int .i64 tid, .int .i64 seq]

theorem bar_bad (to fr : Ad) (tid seq : Int) (v : Value) (w : World) (h : ¬ okB tid seq) (hv : w.cell? ⟨0, 0, none⟩ = some v) (hlt : 0 < w.heap.size) :
    Calls Tryd.prog 9 #[barV to fr tid seq] w fun e w' => e = .returned (.tuple #[.slice none 0 0, v]) ∧ Gro none w w' := by
  obtain ⟨t0, t1, t2, t3, t4, t5⟩ := to
  obtain ⟨f0, f1, f2, f3, f4, f5⟩ := fr
  have HA := Lib.hid (fun w' (k : Gro none w w') => asks_bad 132 ⟨t0, t1, t2, t3, t4, t5⟩ ⟨f0, f1, f2, f3, f4, f5⟩ tid seq v w' h ((k.cell hlt (by simp)).trans hv) (Nat.lt_of_lt_of_le hlt k.size))
  clear h hv hlt
  unfold barV
  simp only [adV] at *
  go_enter Tryd.func9, Tryd.ntmps9
  go_wp2_with fail
  refine (HA.out _ ((Gro.refl _ _).alloc _)).mono ?_
  rintro e w' ⟨rfl, hg⟩
  go_wp2_with fail
  go_ret2
  exact ⟨rfl, ((Gro.refl _ _).alloc _).trans hg⟩

theorem bar_any (to fr : Ad) (tid seq : Int) (w : World) (h : okB tid seq) :
    Calls Tryd.prog 9 #[barV to fr tid seq] w fun e w' => ∃ v, e = .returned (.tuple #[v, .nilIface]) ∧ Gro none w w' ∧ Own w.heap.size w' v (asksL 132 to fr tid seq) := by
  obtain ⟨t0, t1, t2, t3, t4, t5⟩ := to
  obtain ⟨f0, f1, f2, f3, f4, f5⟩ := fr
  have HA := Lib.hid (fun w' => asks_any 132 ⟨t0, t1, t2, t3, t4, t5⟩ ⟨f0, f1, f2, f3, f4, f5⟩ tid seq w' h)
  generalize asksL 132 ⟨t0, t1, t2, t3, t4, t5⟩ ⟨f0, f1, f2, f3, f4, f5⟩ tid seq = L at *
  clear h
  unfold barV
  simp only [adV] at *
  go_enter Tryd.func9, Tryd.ntmps9
  go_wp2_with fail
  refine (HA.out _).mono ?_
  rintro e w' ⟨v, rfl, hg, ho⟩
  have HO := Lib.hid ho
  have HG := Lib.hid hg
  clear hg ho
  go_wp2_with fail
  go_ret2
  exact ⟨_, rfl, ((Gro.refl _ _).alloc _).trans HG.out, HO.out.weak (by simp)⟩

/-- The bytes of a map. -/
def mapL (m : Int) : Nat → List Int
  | 0 => []
  | k + 1 => mapL m k ++ [m / 2 ^ (8 * k) % 256]
theorem mapL_len (m : Int) : ∀ k, (mapL m k).length = k
  | 0 => rfl
  | k + 1 => by simp [mapL, mapL_len m k]
def ackV (to fr : Ad) (tid seq m : Int) : Value := .agg #[.int .u8 to.b0, .int .u8 to.b1, .int .u8 to.b2, .int .u8 to.b3, .int .u8 to.b4, .int .u8 to.b5, .int .u8 fr.b0, .int .u8 fr.b1, .int .u8 fr.b2, .int .u8 fr.b3, .int .u8 fr.b4, .int .u8 fr.b5, .int .i64 tid, .int .i64 seq, .int .u64 m]
def ackL (to fr : Ad) (tid seq m : Int) : List Int := asksL 148 to fr tid seq ++ mapL m 8

theorem ack_bad (to fr : Ad) (tid seq m : Int) (a : Addr) (w : World) (h : ¬ okB tid seq) (hv : w.cell? ⟨0, 0, none⟩ = some (.iface 93 (.pointer (some a)))) (hlt : 0 < w.heap.size) :
    Calls Tryd.prog 10 #[ackV to fr tid seq m] w fun e w' => e = .returned (.tuple #[.slice none 0 0, .iface 93 (.pointer (some a))]) ∧ Gro none w w' := by
  obtain ⟨t0, t1, t2, t3, t4, t5⟩ := to
  obtain ⟨f0, f1, f2, f3, f4, f5⟩ := fr
  have HA := Lib.hid (fun w' (k : Gro none w w') => asks_bad 148 ⟨t0, t1, t2, t3, t4, t5⟩ ⟨f0, f1, f2, f3, f4, f5⟩ tid seq _ w' h ((k.cell hlt (by simp)).trans hv) (Nat.lt_of_lt_of_le hlt k.size))
  clear h hv hlt
  unfold ackV
  simp only [adV] at *
  go_enter Tryd.func10, Tryd.ntmps10
  go_wp2_with fail
  refine (HA.out _ ((Gro.refl _ _).alloc _)).mono ?_
  rintro e w' ⟨rfl, hg⟩
  go_wp2_with fail
  go_ret2
  exact ⟨rfl, ((Gro.refl _ _).alloc _).trans hg⟩

theorem ack_any (to fr : Ad) (tid seq m : Int) (w : World) (h : okB tid seq) (hm0 : 0 ≤ m ∧ m < 18446744073709551616) :
    Calls Tryd.prog 10 #[ackV to fr tid seq m] w fun e w' => ∃ v, e = .returned (.tuple #[v, .nilIface]) ∧ Gro none w w' ∧ Own w.heap.size w' v (ackL to fr tid seq m) := by
  obtain ⟨hm0, hm1⟩ := hm0
  obtain ⟨t0, t1, t2, t3, t4, t5⟩ := to
  obtain ⟨f0, f1, f2, f3, f4, f5⟩ := fr
  have HA := Lib.hid (fun w' => asks_any 148 ⟨t0, t1, t2, t3, t4, t5⟩ ⟨f0, f1, f2, f3, f4, f5⟩ tid seq w' h)
  have hlen : (asksL 148 ⟨t0, t1, t2, t3, t4, t5⟩ ⟨f0, f1, f2, f3, f4, f5⟩ tid seq).length = 20 := by simp [asksL, adL, twoL]
  unfold ackL
  generalize asksL 148 ⟨t0, t1, t2, t3, t4, t5⟩ ⟨f0, f1, f2, f3, f4, f5⟩ tid seq = L at *
  have HLN := Lib.hid hlen
  clear h hlen
  unfold ackV
  simp only [adV] at *
  go_enter Tryd.func10, Tryd.ntmps10
  go_wp2_with fail
  generalize hwb : w.alloc _ = wb
  have hgw : Gro none w wb := hwb ▸ (Gro.refl _ _).alloc _
  have hcm : wb.cell? ⟨w.heap.size, 14, none⟩ = some (.int .u64 m) := by
    rw [← hwb, cell_of_row _ _ _ _ _ _ (heap_alloc_new _ _)]; rfl
  have hlw : w.heap.size < wb.heap.size := by rw [← hwb]; simp
  clear hwb
  have HGW := Lib.hid hgw
  clear hgw
  refine (HA.out _).mono ?_
  rintro e w1 ⟨v1, rfl, hg, ho⟩
  have HO := Lib.hid ho
  have HG := Lib.hid hg
  clear hg ho HA
  go_wp2_with fail
  go_loopw [4, 22] (fun v i wr => ∃ k : Nat, k ≤ 8 ∧ i = .int .i64 k ∧ Gro none wb wr ∧ Own wb.heap.size wr v (L ++ mapL m k)) (fun _ i _ => 8 - (intOf i).toNat)
  case atStart => exact ⟨0, Nat.zero_le _, rfl, HG.out, by simpa [mapL] using HO.out⟩
  case round =>
    clear HO HG
    obtain ⟨k, hk, rfl, hg, ho⟩ := hrel
    have HO := Lib.hid ho
    have HG := Lib.hid hg
    have cm := (hg.cell (p := ⟨w.heap.size, 14, none⟩) hlw (by simp)).trans hcm
    clear ho hg hcm
    by_cases h8 : k < 8
    · go_wp2_with (at_builtin; refine app_bytes rfl _ _ rfl wb (L ++ mapL m k) [m / 2 ^ (8 * k) % 256] _ rfl ?c1 ?c2 _ _ _ rfl ?c5 ?c3 ?c4 ?_)
      case c1 => exact HO.out.gro ((Gro.refl none _).alloc _) (by simp)
      case c2 => exact HG.out.alloc _
      case c5 => rfl
      case c3 => exact lie_one wr _ _ _ rfl (Gro.refl _ _)
      case c4 => have := HLN.out; simp [mapL_len]; omega
      intro v2 w2 ho2 hg2
      have HO2 := Lib.hid ho2
      have HG2 := Lib.hid hg2
      have cm2 := (hg2.cell (p := ⟨w.heap.size, 14, none⟩) hlw (by simp)).trans (((HG.out.cell (p := ⟨w.heap.size, 14, none⟩) hlw (by simp)).symm.trans cm))
      clear ho2 hg2 cm
      go_wp2_with fail
      go_roundw
      case rel => exact ⟨k + 1, by omega, by go_num, HG2.out, HO2.out⟩
      case measure => simp [intOf]; omega
    · obtain rfl : k = 8 := by omega
      go_wp2_with fail
      go_ret2
      exact ⟨_, rfl, HGW.out.trans HG.out, HO.out.weak HGW.out.size⟩

/-- May a Poll be? -/
def okP (aid : Int) : Prop := 1 ≤ aid ∧ aid ≤ 2007
instance (aid : Int) : Decidable (okP aid) := by unfold okP; infer_instance
def pollV (aid : Int) (to fr : Ad) : Value := .agg #[.int .i64 aid, .int .u8 to.b0, .int .u8 to.b1, .int .u8 to.b2, .int .u8 to.b3, .int .u8 to.b4, .int .u8 to.b5, .int .u8 fr.b0, .int .u8 fr.b1, .int .u8 fr.b2, .int .u8 fr.b3, .int .u8 fr.b4, .int .u8 fr.b5]
def pollL (aid : Int) (to fr : Ad) : List Int := [164, 0] ++ twoL (49152 + aid) ++ adL to ++ adL fr
theorem poll_bad (aid : Int) (to fr : Ad) (v : Value) (w : World) (h : ¬ okP aid) (hv : w.cell? ⟨0, 0, none⟩ = some v) (hlt : 0 < w.heap.size) :
    Calls Tryd.prog 11 #[pollV aid to fr] w fun e w' => e = .returned (.tuple #[.slice none 0 0, v]) ∧ Gro none w w' := by
  obtain ⟨t0, t1, t2, t3, t4, t5⟩ := to
  obtain ⟨f0, f1, f2, f3, f4, f5⟩ := fr
  unfold pollV
  simp only
  have ho : aid < 1 ∨ 2007 < aid := by unfold okP at h; omega
  clear h
  rcases ho with h | h
  all_goals
    go_enter Tryd.func11, Tryd.ntmps11
    go_wp2_with fail
    go_region
    all_goals (try go_wp2)
    all_goals go_ret2
    all_goals exact ⟨rfl, ((Gro.refl _ _).alloc _).drew⟩

theorem poll_any (aid : Int) (to fr : Ad) (w : World) (h : okP aid) :
    Calls Tryd.prog 11 #[pollV aid to fr] w fun e w' => ∃ v, e = .returned (.tuple #[v, .nilIface]) ∧ Gro none w w' ∧ Own w.heap.size w' v (pollL aid to fr) := by
  obtain ⟨h0, h1⟩ := h
  have n0 : ¬ aid < 1 := by omega
  have n1 : ¬ 2007 < aid := by omega
  obtain ⟨wb, hwb⟩ : ∃ wb, wb = w.alloc (.cells #[.int .i64 aid, .int .u8 to.b0, .int .u8 to.b1, .int .u8 to.b2, .int .u8 to.b3, .int .u8 to.b4, .int .u8 to.b5, .int .u8 fr.b0, .int .u8 fr.b1, .int .u8 fr.b2, .int .u8 fr.b3, .int .u8 fr.b4, .int .u8 fr.b5] 30) := ⟨_, rfl⟩
  have hgw : Gro none w wb := by rw [hwb]; exact (Gro.refl _ _).alloc _
  have hsz : wb.heap.size = w.heap.size + 1 := by rw [hwb]; simp
  have hto : wb.heap[w.heap.size]? = some (.cells #[.int .i64 aid, .int .u8 to.b0, .int .u8 to.b1, .int .u8 to.b2, .int .u8 to.b3, .int .u8 to.b4, .int .u8 to.b5, .int .u8 fr.b0, .int .u8 fr.b1, .int .u8 fr.b2, .int .u8 fr.b3, .int .u8 fr.b4, .int .u8 fr.b5] 30 (0, 0)) := by rw [hwb]; exact heap_alloc_new w _
  have HT := Lib.hid (fun w' (k : Gro none wb w') => lie_mid (off := 1) (adL to) hto k (by simp) (six rfl rfl rfl rfl rfl rfl))
  have HF := Lib.hid (fun w' (k : Gro none wb w') => lie_mid (off := 7) (adL fr) hto k (by simp) (six rfl rfl rfl rfl rfl rfl))
  have HC := Lib.hid (fun w' (k : Gro none wb w') => show w'.cell? ⟨w.heap.size, 0, none⟩ = some (.int .i64 aid) by rw [k.cell (p := ⟨w.heap.size, 0, none⟩) (by simp [hsz]) (by simp), cell_of_row _ _ _ _ _ _ hto]; rfl)
  obtain ⟨L0, hL0⟩ : ∃ L0 : List Int, L0 = [164, 0] := ⟨_, rfl⟩
  obtain ⟨L1, hL1⟩ : ∃ L1, L1 = twoL (49152 + aid) := ⟨_, rfl⟩
  obtain ⟨L2, hL2⟩ : ∃ L2, L2 = adL to := ⟨_, rfl⟩
  obtain ⟨L3, hL3⟩ : ∃ L3, L3 = adL fr := ⟨_, rfl⟩
  have len0 : L0.length = 2 := by rw [hL0]; rfl
  have len1 : L1.length = 2 := by rw [hL1]; rfl
  have len2 : L2.length = 6 := by rw [hL2]; rfl
  have len3 : L3.length = 6 := by rw [hL3]; rfl
  have HO := Lib.hid (own_new wb L0 #[.int .u8 164, .int .u8 0] (w.heap.size + 1) hsz.symm (by rw [hL0]; rfl) 2 len0.symm (by omega))
  have HL := Lib.hid (show pollL aid to fr = L0 ++ (L1 ++ (L2 ++ L3)) by rw [hL0, hL1, hL2, hL3]; unfold pollL; simp)
  rw [← hL2] at HT
  rw [← hL3] at HF
  have HL1 := Lib.hid hL1
  have HLN := Lib.hid (And.intro len0 (And.intro len1 (And.intro len2 len3)))
  have HG := Lib.hid hgw
  have HB := Lib.hid hwb
  have HSW := Lib.hid (And.intro hgw.size (rfl : w = w))
  generalize pollL aid to fr = L at *
  have hlw : w.heap.size < wb.heap.size := by omega
  clear hwb hto hgw hsz hL0 hL1 hL2 hL3 len0 len1 len2 len3
  obtain ⟨t0, t1, t2, t3, t4, t5⟩ := to
  obtain ⟨f0, f1, f2, f3, f4, f5⟩ := fr
  simp only at HB
  unfold pollV
  simp only
  have HW := Lib.hid (fun w => two_any (49152 + aid) w (by omega) (by omega))
  rw [← HL1.out] at HW
  go_enter Tryd.func11, Tryd.ntmps11
  go_wp2_with fail
  rw [← HB.out]
  refine (HW.out _).mono ?_
  rintro e w3 ⟨rfl, hl3, hg3⟩
  have H3 := Lib.hid hl3
  have HO := Lib.hid (HO.out.gro hg3 (by simp))
  have HG3 := Lib.hid (((Gro.refl none wb).alloc _).trans hg3)
  clear hl3 hg3 HW
  go_wp2_with (at_builtin; refine app_bytes rfl _ _ rfl wb L0 L1 _ rfl ?c1 ?c2 _ _ _ rfl ?c5 ?c3 ?c4 ?_)
  case c1 => exact HO.out
  case c2 => exact HG3.out
  case c3 => have := H3.out; simp only [show ∀ (w : World) (o : Obj), (w.alloc o).heap.size = w.heap.size + 1 from fun w o => by simp] at this; exact this
  case c4 => have := HLN.out; omega
  case c5 => have := HLN.out; omega
  intro v1 w1 ho1 hg1
  have HO := Lib.hid ho1
  have HG1 := Lib.hid hg1
  clear ho1 hg1 H3 HG3
  go_wp2_with (at_builtin; refine app_bytes rfl _ _ rfl wb (L0 ++ L1) L2 _ rfl ?c1 ?c2 _ _ _ rfl ?c5 ?c3 ?c4 ?_)
  case c1 => exact HO.out
  case c2 => exact HG1.out
  case c3 => exact HT.out _ HG1.out
  case c4 => have := HLN.out; simp; omega
  case c5 => have := HLN.out; omega
  intro v2 w2 ho2 hg2
  have HO := Lib.hid ho2
  have HG2 := Lib.hid hg2
  clear ho2 hg2 HG1 HT
  go_wp2_with (at_builtin; refine app_bytes rfl _ _ rfl wb (L0 ++ (L1 ++ L2)) L3 _ rfl ?c1 ?c2 _ _ _ rfl ?c5 ?c3 ?c4 ?_)
  case c1 => exact HO.out
  case c2 => exact HG2.out
  case c3 => exact HF.out _ HG2.out
  case c4 => have := HLN.out; simp; omega
  case c5 => have := HLN.out; omega
  intro v4 w6 ho6 hg6
  have HO := Lib.hid ho6
  have HG6 := Lib.hid hg6
  clear ho6 hg6
  go_wp2_with fail
  go_ret2
  refine ⟨_, rfl, HG.out.trans HG6.out, ?_⟩
  rw [HL.out]
  have := HO.out.weak HSW.out.1
  simpa using this

/-- The kind of bytes. -/
def kindOf (bs : List Int) : Int := if 0 < bs.length ∧ (bs.getD 0 0 = 132 ∨ bs.getD 0 0 = 148 ∨ bs.getD 0 0 = 164 ∨ bs.getD 0 0 = 136 ∨ bs.getD 0 0 = 208) then bs.getD 0 0 else 0
theorem kind_nil (p : Option Addr) (cap : Nat) (w : World) : Calls Tryd.prog 27 #[.slice p 0 cap] w fun e w' => e = .returned (.int .i64 0) ∧ w = w' := by
  go_enter Tryd.func27, Tryd.ntmps27
  go_wp2
  go_ret
  exact ⟨rfl, rfl⟩
def known (x : Int) : Prop := x = 132 ∨ x = 148 ∨ x = 164 ∨ x = 136 ∨ x = 208
theorem kind_hit (b o n cap : Nat) (x : Int) (w : World) (hn : 0 < n) (hx : w.cell? ⟨b, o, none⟩ = some (.int .u8 x)) (h : known x) :
    Calls Tryd.prog 27 #[.slice (some ⟨b, o, none⟩) n cap] w fun e w' => e = .returned (.int .i64 x) ∧ w = w' := by
  have h0 : ¬ n = 0 := by omega
  unfold known at h
  rcases h with rfl | rfl | rfl | rfl | rfl
  all_goals
    go_enter Tryd.func27, Tryd.ntmps27
    go_wp2
    go_ret
    exact ⟨rfl, rfl⟩
theorem kind_miss (b o n cap : Nat) (x : Int) (w : World) (hn : 0 < n) (hx : w.cell? ⟨b, o, none⟩ = some (.int .u8 x)) (h : ¬ known x) :
    Calls Tryd.prog 27 #[.slice (some ⟨b, o, none⟩) n cap] w fun e w' => e = .returned (.int .i64 0) ∧ w = w' := by
  have h0 : ¬ n = 0 := by omega
  unfold known at h
  have h1 : (x == 132) = false := by simp; omega
  have h2 : (x == 148) = false := by simp; omega
  have h3 : (x == 164) = false := by simp; omega
  have h4 : (x == 136) = false := by simp; omega
  have h5 : (x == 208) = false := by simp; omega
  clear h
  go_enter Tryd.func27, Tryd.ntmps27
  go_wp2
  go_ret
  exact ⟨rfl, rfl⟩
instance (x : Int) : Decidable (known x) := by unfold known; infer_instance
theorem kind_any (p : Option Addr) (cap : Nat) (bs : List Int) (w : World) (h : Lie w p bs) :
    Calls Tryd.prog 27 #[.slice p bs.length cap] w fun e w' => e = .returned (.int .i64 (kindOf bs)) ∧ w = w' := by
  by_cases h0 : 0 < bs.length
  · obtain ⟨b, o, rfl, hc⟩ := h 0 h0
    by_cases hk : known (bs.getD 0 0)
    · have : kindOf bs = bs.getD 0 0 := by unfold kindOf; exact if_pos ⟨h0, hk⟩
      rw [this]
      exact kind_hit b o _ cap _ w h0 (by simpa using hc) hk
    · have : kindOf bs = 0 := by unfold kindOf; exact if_neg (fun h => hk h.2)
      rw [this]
      exact kind_miss b o _ cap _ w h0 (by simpa using hc) hk
  · have hl : bs.length = 0 := by omega
    have : kindOf bs = 0 := by unfold kindOf; exact if_neg (fun h => h0 h.1)
    rw [this, hl]
    exact kind_nil p cap w

theorem first_any (w : World) : Calls Tryd.prog 8 #[] w fun e w' => e = .returned (.bool true) ∧ Gro none w w' := by
  have HA := Lib.hid (bar_any adZ adZ 0 0 w (by decide))
  simp only [barV, adZ] at HA
  have HK := Lib.hid (fun p cap w => kind_nil p cap w)
  go_enter Tryd.func8, Tryd.ntmps8
  go_wp2_with fail
  refine HA.out.mono ?_
  rintro e w' ⟨v, rfl, hg, ho⟩
  obtain ⟨p, cap, rfl, hcap, hl, -⟩ := ho.lie
  have hlen : (asksL 132 ⟨0, 0, 0, 0, 0, 0⟩ ⟨0, 0, 0, 0, 0, 0⟩ 0 0).length = 20 := rfl
  have HX := Lib.hid (kind_any p cap _ w' hl)
  rw [hlen] at HX
  rw [show kindOf (asksL 132 ⟨0, 0, 0, 0, 0, 0⟩ ⟨0, 0, 0, 0, 0, 0⟩ 0 0) = 132 from by decide] at HX
  rw [hlen]
  have HG := Lib.hid hg
  clear ho hl hg hlen hcap HA
  go_wp2_with fail
  refine (HK.out _ _ _).mono ?_
  rintro e w' ⟨rfl, rfl⟩
  go_wp2_with fail
  refine HX.out.mono ?_
  rintro e w' ⟨rfl, rfl⟩
  go_wp2_with fail
  go_ret
  exact ⟨rfl, HG.out⟩
end Go.Proofs.YtadcpoglkmklhaaDoor
