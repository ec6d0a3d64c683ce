/-
  THE WALKS OF package ctl, WRITING: two, asks, BarBytes, AckBytes, PollBytes. Conditions: the fourteen sentinels' own ('Sent'), where an error is told.
-/
import Derived.Test.YtadcpoglkmklhaaDoorByt
namespace Go.Proofs.YtadcpoglkmklhaaDoor
open Go.RowKit

theorem two_any (n : Int) (w : World) (h0 : 0 ≤ n) (h1 : n < 65536) :
    Calls Tryd.prog 30 #[.int .i64 n] w fun e w' => e = .returned (.slice (some ⟨w.heap.size, 0, none⟩) 2 2) ∧ LieA w' ⟨w.heap.size, 0, none⟩ (twoL n) ∧ Gro none w w' := by
  go_enter Tryd.func30, Tryd.ntmps30
  go_wp2
  go_ret
  exact ⟨rfl, lie_two w _ _ _ _ rfl (Gro.refl _ _), (Gro.refl _ _).alloc _⟩

/-- May a Bar, or an Ack, be? -/
def okB (tid seq : Int) : Prop := 0 ≤ tid ∧ tid < 8 ∧ 0 ≤ seq ∧ seq < 4096
instance (tid seq : Int) : Decidable (okB tid seq) := by unfold okB; infer_instance
def asksL (kind : Int) (to fr : Ad) (tid seq : Int) : List Int := [kind, 0, 0, 0] ++ adL to ++ adL fr ++ twoL (4 + tid * 4096) ++ twoL (seq * 16)

theorem asks_bad (kind : Int) (to fr : Ad) (tid seq : Int) (v : Value) (w : World) (h : ¬ okB tid seq) (hv : w.cell? ⟨0, 0, none⟩ = some v) (hlt : 0 < w.heap.size) :
    Calls Tryd.prog 29 #[.int .u8 kind, adV to, adV fr, .int .i64 tid, .int .i64 seq] w fun e w' => e = .returned (.tuple #[.slice none 0 0, v]) ∧ Gro none w w' := by
  obtain ⟨t0, t1, t2, t3, t4, t5⟩ := to
  obtain ⟨f0, f1, f2, f3, f4, f5⟩ := fr
  unfold adV
  simp only
  have ho : tid < 0 ∨ (0 ≤ tid ∧ 8 ≤ tid) ∨ (0 ≤ tid ∧ tid < 8 ∧ seq < 0) ∨ (0 ≤ tid ∧ tid < 8 ∧ 0 ≤ seq ∧ 4096 ≤ seq) := by unfold okB at h; omega
  clear h
  refine or4 ho ?c0 ?c1 ?c2 ?c3
  case' c0 => intro h
  case' c1 => rintro ⟨h, h'⟩
  case' c2 => rintro ⟨h, h', h2⟩
  case' c3 => rintro ⟨h, h', h2, h3⟩
  all_goals
    clear ho
    go_enter Tryd.func29, Tryd.ntmps29
    go_wp2_with fail
    go_region
    all_goals (try go_wp2)
    all_goals go_ret2
    all_goals exact ⟨rfl, (((Gro.refl _ _).alloc _).alloc _).drew⟩

/-- What an address's six cells hold behind a box. -/
theorem box6 {x : Ad} {w w' : World} {b : Nat} {row : Option Nat} {t : TypeId} (hb : w.heap[b]? = some (.cells #[.int .u8 x.b0, .int .u8 x.b1, .int .u8 x.b2, .int .u8 x.b3, .int .u8 x.b4, .int .u8 x.b5] t (0, 0))) (h : Gro row w w') (hr : some b ≠ row) :
    LieA w' ⟨b, 0, none⟩ (adL x) := by
  have hlt : b < w.heap.size := by
    rcases Nat.lt_or_ge b w.heap.size with h | h
    · exact h
    · rw [Array.getElem?_eq_none h] at hb; cases hb
  have hb' := (h.block b hlt hr).trans hb
  intro j hj
  have hadd : (⟨b, 0, none⟩ : Addr).add j = ⟨b, j, none⟩ := by unfold Addr.add; split <;> simp_all
  rw [hadd, cell_of_row _ _ _ _ _ _ hb']
  have hj : j < 6 := hj
  rcases (show j = 0 ∨ j = 1 ∨ j = 2 ∨ j = 3 ∨ j = 4 ∨ j = 5 from by omega) with rfl | rfl | rfl | rfl | rfl | rfl <;> rfl

theorem asks_any (kind : Int) (to fr : Ad) (tid seq : Int) (w : World) (h : okB tid seq) :
    Calls Tryd.prog 29 #[.int .u8 kind, adV to, adV fr, .int .i64 tid, .int .i64 seq] w fun e w' => ∃ v, e = .returned (.tuple #[v, .nilIface]) ∧ Gro none w w' ∧ Own w.heap.size w' v (asksL kind to fr tid seq) := by
  obtain ⟨h0, h1, h2, h3⟩ := h
  have n0 : ¬ tid < 0 := by omega
  have n1 : ¬ 8 ≤ tid := by omega
  have n2 : ¬ seq < 0 := by omega
  have n3 : ¬ 4096 ≤ seq := by omega
  obtain ⟨wb, hwb⟩ : ∃ wb, wb = (w.alloc (.cells #[.int .u8 to.b0, .int .u8 to.b1, .int .u8 to.b2, .int .u8 to.b3, .int .u8 to.b4, .int .u8 to.b5] 23)).alloc (.cells #[.int .u8 fr.b0, .int .u8 fr.b1, .int .u8 fr.b2, .int .u8 fr.b3, .int .u8 fr.b4, .int .u8 fr.b5] 23) := ⟨_, rfl⟩
  have hgw : Gro none w wb := by rw [hwb]; exact ((Gro.refl _ _).alloc _).alloc _
  have hsz : wb.heap.size = w.heap.size + 1 + 1 := by rw [hwb]; simp
  have hto : wb.heap[w.heap.size]? = some (.cells #[.int .u8 to.b0, .int .u8 to.b1, .int .u8 to.b2, .int .u8 to.b3, .int .u8 to.b4, .int .u8 to.b5] 23 (0, 0)) := by rw [hwb]; exact (Below.heap_alloc _ _ _ (by simp)).trans (heap_alloc_new w _)
  have hfr : wb.heap[w.heap.size + 1]? = some (.cells #[.int .u8 fr.b0, .int .u8 fr.b1, .int .u8 fr.b2, .int .u8 fr.b3, .int .u8 fr.b4, .int .u8 fr.b5] 23 (0, 0)) := by
    have := heap_alloc_new (w.alloc (.cells #[.int .u8 to.b0, .int .u8 to.b1, .int .u8 to.b2, .int .u8 to.b3, .int .u8 to.b4, .int .u8 to.b5] 23)) (.cells #[.int .u8 fr.b0, .int .u8 fr.b1, .int .u8 fr.b2, .int .u8 fr.b3, .int .u8 fr.b4, .int .u8 fr.b5] 23)
    simp only [show ∀ (w : World) (o : Obj), (w.alloc o).heap.size = w.heap.size + 1 from fun w o => by simp] at this
    rw [hwb]; exact this
  have HT := Lib.hid (fun w' (k : Gro none wb w') => box6 hto k (by simp))
  have HF := Lib.hid (fun w' (k : Gro none wb w') => box6 hfr k (by simp))
  obtain ⟨L0, hL0⟩ : ∃ L0, L0 = [kind, 0, 0, 0] := ⟨_, rfl⟩
  obtain ⟨L1, hL1⟩ : ∃ L1, L1 = adL to := ⟨_, rfl⟩
  obtain ⟨L2, hL2⟩ : ∃ L2, L2 = adL fr := ⟨_, rfl⟩
  obtain ⟨L3, hL3⟩ : ∃ L3, L3 = twoL (4 + tid * 4096) := ⟨_, rfl⟩
  obtain ⟨L4, hL4⟩ : ∃ L4, L4 = twoL (seq * 16) := ⟨_, rfl⟩
  have len0 : L0.length = 4 := by rw [hL0]; rfl
  have len1 : L1.length = 6 := by rw [hL1]; rfl
  have len2 : L2.length = 6 := by rw [hL2]; rfl
  have len3 : L3.length = 2 := by rw [hL3]; rfl
  have len4 : L4.length = 2 := by rw [hL4]; rfl
  have HO := Lib.hid (own_new wb L0 #[.int .u8 kind, .int .u8 0, .int .u8 0, .int .u8 0] (w.heap.size + 1 + 1) hsz.symm (by rw [hL0]; rfl) 4 len0.symm (by omega))
  have HL := Lib.hid (show asksL kind to fr tid seq = L0 ++ (L1 ++ (L2 ++ (L3 ++ L4))) by rw [hL0, hL1, hL2, hL3, hL4]; unfold asksL; simp)
  rw [← hL1] at HT
  rw [← hL2] at HF
  have HL3 := Lib.hid hL3
  have HL4 := Lib.hid hL4
  have HLN := Lib.hid (And.intro len0 (And.intro len1 (And.intro len2 (And.intro len3 len4))))
  have HG := Lib.hid hgw
  have HB := Lib.hid hwb
  have HSW := Lib.hid (And.intro hgw.size (rfl : w = w))
  generalize asksL kind to fr tid seq = L at *
  clear hwb hto hfr hgw hsz hL0 hL1 hL2 hL3 hL4 len0 len1 len2 len3 len4
  obtain ⟨t0, t1, t2, t3, t4, t5⟩ := to
  obtain ⟨f0, f1, f2, f3, f4, f5⟩ := fr
  simp only at HB
  unfold adV
  simp only
  go_enter Tryd.func29, Tryd.ntmps29
  go_wp2_with (at_builtin; rw [← HB.out]; refine app_bytes rfl _ _ rfl wb L0 L1 _ rfl ?c1 ?c2 _ _ _ rfl ?c5 ?c3 ?c4 ?_)
  case c1 => exact HO.out
  case c2 => exact (Gro.refl _ _).alloc _
  case c3 => exact HT.out _ ((Gro.refl _ _).alloc _)
  case c4 => have := HLN.out; omega
  case c5 => have := HLN.out; omega
  intro v1 w1 ho1 hg1
  have HO := Lib.hid ho1
  have HG1 := Lib.hid hg1
  clear ho1 hg1
  go_wp2_with (at_builtin; refine app_bytes rfl _ _ rfl wb (L0 ++ L1) L2 _ rfl ?c1 ?c2 _ _ _ rfl ?c5 ?c3 ?c4 ?_)
  case c1 => exact HO.out
  case c2 => exact HG1.out
  case c3 => exact HF.out _ HG1.out
  case c4 => have := HLN.out; simp; omega
  case c5 => have := HLN.out; omega
  intro v2 w2 ho2 hg2
  have HO := Lib.hid ho2
  have HG2 := Lib.hid hg2
  clear ho2 hg2 HG1 HT HF HB
  have HW := Lib.hid (two_any (4 + tid * 4096) w2 (by omega) (by omega))
  rw [← HL3.out] at HW
  go_wp2_with fail
  refine HW.out.mono ?_
  rintro e w3 ⟨rfl, hl3, hg3⟩
  have H3 := Lib.hid hl3
  have HO := Lib.hid (HO.out.gro hg3 (by simp))
  have HG3 := Lib.hid (HG2.out.trans hg3)
  clear hl3 hg3 HW HG2
  go_wp2_with (at_builtin; refine app_bytes rfl _ _ rfl wb (L0 ++ (L1 ++ L2)) L3 _ rfl ?c1 ?c2 _ _ _ rfl ?c5 ?c3 ?c4 ?_)
  case c1 => exact HO.out
  case c2 => exact HG3.out
  case c3 => exact H3.out
  case c4 => have := HLN.out; simp; omega
  case c5 => have := HLN.out; omega
  intro v3 w4 ho4 hg4
  have HO := Lib.hid ho4
  have HG4 := Lib.hid hg4
  clear ho4 hg4 HG3 H3
  have HW := Lib.hid (two_any (seq * 16) w4 (by omega) (by omega))
  rw [← HL4.out] at HW
  go_wp2_with fail
  refine HW.out.mono ?_
  rintro e w5 ⟨rfl, hl5, hg5⟩
  have H5 := Lib.hid hl5
  have HO := Lib.hid (HO.out.gro hg5 (by simp))
  have HG5 := Lib.hid (HG4.out.trans hg5)
  clear hl5 hg5 HW HG4
  go_wp2_with (at_builtin; refine app_bytes rfl _ _ rfl wb (L0 ++ (L1 ++ (L2 ++ L3))) L4 _ rfl ?c1 ?c2 _ _ _ rfl ?c5 ?c3 ?c4 ?_)
  case c1 => exact HO.out
  case c2 => exact HG5.out
  case c3 => exact H5.out
  case c4 => have := HLN.out; simp; omega
  case c5 => have := HLN.out; omega
  intro v4 w6 ho6 hg6
  have HO := Lib.hid ho6
  have HG6 := Lib.hid hg6
  clear ho6 hg6
  go_wp2_with fail
  go_ret2
  refine ⟨_, rfl, HG.out.trans HG6.out, ?_⟩
  rw [HL.out]
  have := HO.out.weak HSW.out.1
  simpa using this
end Go.Proofs.YtadcpoglkmklhaaDoor
