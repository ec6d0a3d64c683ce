/-
  THE WALK OF CtlBack: each control frame that may be is read from its bytes as it is, and by no other call; it answers true. No condition but the fourteen sentinels' own ('Sent') and that the frames' numbers are bytes.
-/
import Derived.Test.YtadcpoglkmklhaaDoorCtlSays
import Derived.Test.YtadcpoglkmklhaaDoorCtlLaw
import Derived.Test.YtadcpoglkmklhaaDoorCtlSelf
import Derived.Test.YtadcpoglkmklhaaDoorKeep
import Derived.Deep.Cut
namespace Go.Proofs.YtadcpoglkmklhaaDoor
open Go.RowKit

theorem kindOf_at {bs : List Int} {c : Int} (hl : 0 < bs.length) (hk : bs.getD 0 0 = c) (h : known c) : kindOf bs = c := by
  unfold kindOf
  rw [hk]
  exact if_pos ⟨hl, h⟩
theorem poll_mem {aid : Int} {to fr : Ad} (h : okP aid) (ht : ∀ x ∈ adL to, 0 ≤ x ∧ x < 256) (hf : ∀ x ∈ adL fr, 0 ≤ x ∧ x < 256) : ∀ x ∈ pollL aid to fr, 0 ≤ x ∧ x < 256 := by
  obtain ⟨h0, h1⟩ := h
  intro x hx
  unfold pollL at hx
  simp only [List.mem_append] at hx
  rcases hx with ((hx | hx) | hx) | hx
  · simp at hx
    rcases hx with rfl | rfl <;> decide
  · exact two_bytes (by omega) (by omega) x hx
  · exact ht x hx
  · exact hf x hx
/-- What came back: a slice of its own with the bytes X, and u. -/
def Wrown (w w' : World) (e : Ending) (X : List Int) (u : Value) : Prop := ∃ p cap, e = .returned (.tuple #[.slice p X.length cap, u]) ∧ Gro none w w' ∧ Own w.heap.size w' (.slice p X.length cap) X
theorem Own.keep {B : Nat} {w w' : World} {v : Value} {xs : List Int} {r : Option Nat} (h : Own B w v xs) (hf : ∀ k, k < w.heap.size → some k ≠ r → w'.heap[k]? = w.heap[k]?) (hr : ∀ g, r = some g → g < B) : Own B w' v xs := by
  obtain ⟨h1, h2⟩ := h
  refine ⟨h1, ?_⟩
  rcases h2 with h2 | ⟨g, cap, cur, h2, h3, h4, h5⟩
  · exact .inl h2
  · exact .inr ⟨g, cap, cur, h2, h3, (hf g (blk_lt h4) (fun e => by have := hr g e.symm; omega)).trans h4, h5⟩
theorem Own.blk {B : Nat} {w : World} {p : Option Addr} {n c : Nat} {xs : List Int} (h : Own B w (.slice p n c) xs) : ∀ g, (Value.slice p n c).ownBlock = some g → g < w.heap.size := fun g e => h.lt g e |>.2
theorem Own.wrown {w w' : World} {v u : Value} {X : List Int} (h : Own w.heap.size w' v X) (k : Gro none w w') : Wrown w w' (.returned (.tuple #[v, u])) X u := by
  obtain ⟨p, cap, rfl, _, _, _⟩ := h.lie
  exact ⟨p, cap, rfl, k, h⟩
theorem bar_wrown (B : Nat) (A : Nat → Addr) (W w : World) (hs : Sent B W A) (hB : B ≤ W.heap.size) (k : Gro none W w) (to fr : Ad) (tid seq : Int) :
    Calls Tryd.prog 9 #[barV to fr tid seq] w fun e w' => Wrown w w' e (okX (okB tid seq) (asksL 132 to fr tid seq)) (errV A (okK (okB tid seq))) := by
  have hs' : Sent B w A := hs.far fun i hi => k.block i (by omega) (by simp)
  unfold okX okK
  by_cases h : okB tid seq
  · rw [if_pos h, if_pos h]
    exact (bar_any _ _ _ _ w h).mono fun e w' ⟨v, he, hg, ho⟩ => he ▸ ho.wrown hg
  · rw [if_neg h, if_neg h]
    exact (bar_bad _ _ _ _ _ w h hs'.c2 (by have := k.size; have := hs.big; omega)).mono fun e w' ⟨he, hg⟩ => he ▸ ⟨none, 0, rfl, hg, Own.none_ _ _⟩
theorem ack_wrown (B : Nat) (A : Nat → Addr) (W w : World) (hs : Sent B W A) (hB : B ≤ W.heap.size) (k : Gro none W w) (to fr : Ad) (tid seq m : Int) (hm : 0 ≤ m ∧ m < 18446744073709551616) :
    Calls Tryd.prog 10 #[ackV to fr tid seq m] w fun e w' => Wrown w w' e (okX (okB tid seq) (ackL to fr tid seq m)) (errV A (okK (okB tid seq))) := by
  have hs' : Sent B w A := hs.far fun i hi => k.block i (by omega) (by simp)
  unfold okX okK
  by_cases h : okB tid seq
  · rw [if_pos h, if_pos h]
    exact (ack_any _ _ _ _ _ w h hm).mono fun e w' ⟨v, he, hg, ho⟩ => he ▸ ho.wrown hg
  · rw [if_neg h, if_neg h]
    exact (ack_bad _ _ _ _ _ _ w h hs'.c2 (by have := k.size; have := hs.big; omega)).mono fun e w' ⟨he, hg⟩ => he ▸ ⟨none, 0, rfl, hg, Own.none_ _ _⟩
theorem poll_wrown (B : Nat) (A : Nat → Addr) (W w : World) (hs : Sent B W A) (hB : B ≤ W.heap.size) (k : Gro none W w) (aid : Int) (to fr : Ad) :
    Calls Tryd.prog 11 #[pollV aid to fr] w fun e w' => Wrown w w' e (okX (okP aid) (pollL aid to fr)) (errV A (okK (okP aid))) := by
  have hs' : Sent B w A := hs.far fun i hi => k.block i (by omega) (by simp)
  unfold okX okK
  by_cases h : okP aid
  · rw [if_pos h, if_pos h]
    exact (poll_any _ _ _ w h).mono fun e w' ⟨v, he, hg, ho⟩ => he ▸ ho.wrown hg
  · rw [if_neg h, if_neg h]
    exact (poll_bad _ _ _ _ w h hs'.c2 (by have := k.size; have := hs.big; omega)).mono fun e w' ⟨he, hg⟩ => he ▸ ⟨none, 0, rfl, hg, Own.none_ _ _⟩

set_option maxHeartbeats 8000000 in
set_option maxRecDepth 100000 in
theorem back_any (rto rfr ato afr pto pfr : Ad) (rtid rseq atid aseq am paid : Int) (A : Nat → Addr) (W : World) (hs : Sent W.heap.size W A) (hm : 0 ≤ am ∧ am < 18446744073709551616) (hrt : ∀ x ∈ adL rto, 0 ≤ x ∧ x < 256) (hrf : ∀ x ∈ adL rfr, 0 ≤ x ∧ x < 256) (hat : ∀ x ∈ adL ato, 0 ≤ x ∧ x < 256) (haf : ∀ x ∈ adL afr, 0 ≤ x ∧ x < 256) (hpt : ∀ x ∈ adL pto, 0 ≤ x ∧ x < 256) (hpf : ∀ x ∈ adL pfr, 0 ≤ x ∧ x < 256) :
    Calls Tryd.prog 7 #[barV rto rfr rtid rseq, ackV ato afr atid aseq am, pollV paid pto pfr] W fun e w' => e = .returned (.bool true) ∧ Far W.heap.size W w' := by
  obtain ⟨rt0, rt1, rt2, rt3, rt4, rt5⟩ := rto
  obtain ⟨rf0, rf1, rf2, rf3, rf4, rf5⟩ := rfr
  obtain ⟨at0, at1, at2, at3, at4, at5⟩ := ato
  obtain ⟨af0, af1, af2, af3, af4, af5⟩ := afr
  obtain ⟨pt0, pt1, pt2, pt3, pt4, pt5⟩ := pto
  obtain ⟨pf0, pf1, pf2, pf3, pf4, pf5⟩ := pfr
  obtain ⟨X1, hX1⟩ : ∃ X, X = okX (okB rtid rseq) (asksL 132 ⟨rt0, rt1, rt2, rt3, rt4, rt5⟩ ⟨rf0, rf1, rf2, rf3, rf4, rf5⟩ rtid rseq) := ⟨_, rfl⟩
  obtain ⟨u1, hu1⟩ : ∃ u, u = errV A (okK (okB rtid rseq)) := ⟨_, rfl⟩
  obtain ⟨X2, hX2⟩ : ∃ X, X = okX (okB atid aseq) (ackL ⟨at0, at1, at2, at3, at4, at5⟩ ⟨af0, af1, af2, af3, af4, af5⟩ atid aseq am) := ⟨_, rfl⟩
  obtain ⟨u2, hu2⟩ : ∃ u, u = errV A (okK (okB atid aseq)) := ⟨_, rfl⟩
  obtain ⟨X3, hX3⟩ : ∃ X, X = okX (okP paid) (pollL paid ⟨pt0, pt1, pt2, pt3, pt4, pt5⟩ ⟨pf0, pf1, pf2, pf3, pf4, pf5⟩) := ⟨_, rfl⟩
  obtain ⟨u3, hu3⟩ : ∃ u, u = errV A (okK (okP paid)) := ⟨_, rfl⟩
  have HC1 := Lib.hid (fun w k => bar_wrown _ A W w hs (Nat.le_refl _) k ⟨rt0, rt1, rt2, rt3, rt4, rt5⟩ ⟨rf0, rf1, rf2, rf3, rf4, rf5⟩ rtid rseq)
  have HC2 := Lib.hid (fun w k => ack_wrown _ A W w hs (Nat.le_refl _) k ⟨at0, at1, at2, at3, at4, at5⟩ ⟨af0, af1, af2, af3, af4, af5⟩ atid aseq am hm)
  have HC3 := Lib.hid (fun w k => poll_wrown _ A W w hs (Nat.le_refl _) k paid ⟨pt0, pt1, pt2, pt3, pt4, pt5⟩ ⟨pf0, pf1, pf2, pf3, pf4, pf5⟩)
  rw [← hX1, ← hu1] at HC1
  rw [← hX2, ← hu2] at HC2
  rw [← hX3, ← hu3] at HC3
  have HXU := Lib.hid (And.intro (And.intro hX1 hu1) (And.intro (And.intro hX2 hu2) (And.intro hX3 hu3)))
  have HBY := Lib.hid (And.intro (And.intro hrt hrf) (And.intro (And.intro hat haf) (And.intro (And.intro hpt hpf) hm)))
  have HIS : Hid (∀ w, Gro none W w → ∀ i, i < 15 → Calls Tryd.prog 16 #[errV A i, .int .i64 (codeOf i)] w fun e w' => e = .returned (.bool true) ∧ Gro none w w') := fun w k i hi => (is_any W.heap.size w A (hs.far fun i hi => k.block i hi (by simp)) k.size i hi (codeOf i)).mono fun e w' ⟨he, hg⟩ => ⟨by rw [he, decide_eq_true rfl], hg⟩
  have HS4 : Hid (∀ w', Gro none W w' → Four W.heap.size w' A) := fun w' k => (hs.far fun i hi => k.block i hi (by simp)).four
  clear hX1 hX2 hX3 hu1 hu2 hu3 hs hm hrt hrf hat haf hpt hpf
  have hwb : ∀ w', Gro none (((W.alloc (.cells #[.int .u8 rt0, .int .u8 rt1, .int .u8 rt2, .int .u8 rt3, .int .u8 rt4, .int .u8 rt5, .int .u8 rf0, .int .u8 rf1, .int .u8 rf2, .int .u8 rf3, .int .u8 rf4, .int .u8 rf5, .int .i64 rtid, .int .i64 rseq] 25)).alloc (.cells #[.int .u8 at0, .int .u8 at1, .int .u8 at2, .int .u8 at3, .int .u8 at4, .int .u8 at5, .int .u8 af0, .int .u8 af1, .int .u8 af2, .int .u8 af3, .int .u8 af4, .int .u8 af5, .int .i64 atid, .int .i64 aseq, .int .u64 am] 28)).alloc (.cells #[.int .i64 paid, .int .u8 pt0, .int .u8 pt1, .int .u8 pt2, .int .u8 pt3, .int .u8 pt4, .int .u8 pt5, .int .u8 pf0, .int .u8 pf1, .int .u8 pf2, .int .u8 pf3, .int .u8 pf4, .int .u8 pf5] 30)) w' → Gro none W w' := fun w' k => ((((Gro.refl _ _).alloc _).alloc _).alloc _).trans k
  have hb0 : ∀ w', Gro none (((W.alloc (.cells #[.int .u8 rt0, .int .u8 rt1, .int .u8 rt2, .int .u8 rt3, .int .u8 rt4, .int .u8 rt5, .int .u8 rf0, .int .u8 rf1, .int .u8 rf2, .int .u8 rf3, .int .u8 rf4, .int .u8 rf5, .int .i64 rtid, .int .i64 rseq] 25)).alloc (.cells #[.int .u8 at0, .int .u8 at1, .int .u8 at2, .int .u8 at3, .int .u8 at4, .int .u8 at5, .int .u8 af0, .int .u8 af1, .int .u8 af2, .int .u8 af3, .int .u8 af4, .int .u8 af5, .int .i64 atid, .int .i64 aseq, .int .u64 am] 28)).alloc (.cells #[.int .i64 paid, .int .u8 pt0, .int .u8 pt1, .int .u8 pt2, .int .u8 pt3, .int .u8 pt4, .int .u8 pt5, .int .u8 pf0, .int .u8 pf1, .int .u8 pf2, .int .u8 pf3, .int .u8 pf4, .int .u8 pf5] 30)) w' → w'.heap[W.heap.size]? = some (.cells #[.int .u8 rt0, .int .u8 rt1, .int .u8 rt2, .int .u8 rt3, .int .u8 rt4, .int .u8 rt5, .int .u8 rf0, .int .u8 rf1, .int .u8 rf2, .int .u8 rf3, .int .u8 rf4, .int .u8 rf5, .int .i64 rtid, .int .i64 rseq] 25 (0, 0)) := fun w' k =>
    (k.block W.heap.size (by simp; omega) (by simp)).trans ((Below.heap_alloc _ _ _ (by simp; omega)).trans ((Below.heap_alloc _ _ _ (by simp)).trans (heap_alloc_new W _)))
  have hb1 : ∀ w', Gro none (((W.alloc (.cells #[.int .u8 rt0, .int .u8 rt1, .int .u8 rt2, .int .u8 rt3, .int .u8 rt4, .int .u8 rt5, .int .u8 rf0, .int .u8 rf1, .int .u8 rf2, .int .u8 rf3, .int .u8 rf4, .int .u8 rf5, .int .i64 rtid, .int .i64 rseq] 25)).alloc (.cells #[.int .u8 at0, .int .u8 at1, .int .u8 at2, .int .u8 at3, .int .u8 at4, .int .u8 at5, .int .u8 af0, .int .u8 af1, .int .u8 af2, .int .u8 af3, .int .u8 af4, .int .u8 af5, .int .i64 atid, .int .i64 aseq, .int .u64 am] 28)).alloc (.cells #[.int .i64 paid, .int .u8 pt0, .int .u8 pt1, .int .u8 pt2, .int .u8 pt3, .int .u8 pt4, .int .u8 pt5, .int .u8 pf0, .int .u8 pf1, .int .u8 pf2, .int .u8 pf3, .int .u8 pf4, .int .u8 pf5] 30)) w' → w'.heap[W.heap.size + 1]? = some (.cells #[.int .u8 at0, .int .u8 at1, .int .u8 at2, .int .u8 at3, .int .u8 at4, .int .u8 at5, .int .u8 af0, .int .u8 af1, .int .u8 af2, .int .u8 af3, .int .u8 af4, .int .u8 af5, .int .i64 atid, .int .i64 aseq, .int .u64 am] 28 (0, 0)) := fun w' k => by
    have h := heap_alloc_new (W.alloc (.cells #[.int .u8 rt0, .int .u8 rt1, .int .u8 rt2, .int .u8 rt3, .int .u8 rt4, .int .u8 rt5, .int .u8 rf0, .int .u8 rf1, .int .u8 rf2, .int .u8 rf3, .int .u8 rf4, .int .u8 rf5, .int .i64 rtid, .int .i64 rseq] 25)) (.cells #[.int .u8 at0, .int .u8 at1, .int .u8 at2, .int .u8 at3, .int .u8 at4, .int .u8 at5, .int .u8 af0, .int .u8 af1, .int .u8 af2, .int .u8 af3, .int .u8 af4, .int .u8 af5, .int .i64 atid, .int .i64 aseq, .int .u64 am] 28)
    simp only [show ∀ (w : World) (o : Obj), (w.alloc o).heap.size = w.heap.size + 1 from fun w o => by simp] at h
    exact (k.block (W.heap.size + 1) (by simp) (by simp)).trans ((Below.heap_alloc _ _ _ (by simp)).trans h)
  have hb2 : ∀ w', Gro none (((W.alloc (.cells #[.int .u8 rt0, .int .u8 rt1, .int .u8 rt2, .int .u8 rt3, .int .u8 rt4, .int .u8 rt5, .int .u8 rf0, .int .u8 rf1, .int .u8 rf2, .int .u8 rf3, .int .u8 rf4, .int .u8 rf5, .int .i64 rtid, .int .i64 rseq] 25)).alloc (.cells #[.int .u8 at0, .int .u8 at1, .int .u8 at2, .int .u8 at3, .int .u8 at4, .int .u8 at5, .int .u8 af0, .int .u8 af1, .int .u8 af2, .int .u8 af3, .int .u8 af4, .int .u8 af5, .int .i64 atid, .int .i64 aseq, .int .u64 am] 28)).alloc (.cells #[.int .i64 paid, .int .u8 pt0, .int .u8 pt1, .int .u8 pt2, .int .u8 pt3, .int .u8 pt4, .int .u8 pt5, .int .u8 pf0, .int .u8 pf1, .int .u8 pf2, .int .u8 pf3, .int .u8 pf4, .int .u8 pf5] 30)) w' → w'.heap[W.heap.size + 1 + 1]? = some (.cells #[.int .i64 paid, .int .u8 pt0, .int .u8 pt1, .int .u8 pt2, .int .u8 pt3, .int .u8 pt4, .int .u8 pt5, .int .u8 pf0, .int .u8 pf1, .int .u8 pf2, .int .u8 pf3, .int .u8 pf4, .int .u8 pf5] 30 (0, 0)) := fun w' k => by
    have h := heap_alloc_new ((W.alloc (.cells #[.int .u8 rt0, .int .u8 rt1, .int .u8 rt2, .int .u8 rt3, .int .u8 rt4, .int .u8 rt5, .int .u8 rf0, .int .u8 rf1, .int .u8 rf2, .int .u8 rf3, .int .u8 rf4, .int .u8 rf5, .int .i64 rtid, .int .i64 rseq] 25)).alloc (.cells #[.int .u8 at0, .int .u8 at1, .int .u8 at2, .int .u8 at3, .int .u8 at4, .int .u8 at5, .int .u8 af0, .int .u8 af1, .int .u8 af2, .int .u8 af3, .int .u8 af4, .int .u8 af5, .int .i64 atid, .int .i64 aseq, .int .u64 am] 28)) (.cells #[.int .i64 paid, .int .u8 pt0, .int .u8 pt1, .int .u8 pt2, .int .u8 pt3, .int .u8 pt4, .int .u8 pt5, .int .u8 pf0, .int .u8 pf1, .int .u8 pf2, .int .u8 pf3, .int .u8 pf4, .int .u8 pf5] 30)
    simp only [show ∀ (w : World) (o : Obj), (w.alloc o).heap.size = w.heap.size + 1 from fun w o => by simp] at h
    exact (k.block (W.heap.size + 1 + 1) (by simp) (by simp)).trans h
  have HWB := Lib.hid hwb
  have HB0 := Lib.hid hb0
  have HB1 := Lib.hid hb1
  have HB2 := Lib.hid hb2
  have HSA := Lib.hid (fun w => sameBar_self ⟨rt0, rt1, rt2, rt3, rt4, rt5⟩ ⟨rf0, rf1, rf2, rf3, rf4, rf5⟩ rtid rseq w)
  have HSB := Lib.hid (fun w => sameAck_self ⟨at0, at1, at2, at3, at4, at5⟩ ⟨af0, af1, af2, af3, af4, af5⟩ atid aseq am w)
  have HSC := Lib.hid (fun w => samePoll_self paid ⟨pt0, pt1, pt2, pt3, pt4, pt5⟩ ⟨pf0, pf1, pf2, pf3, pf4, pf5⟩ w)
  clear hwb hb0 hb1 hb2
  unfold barV at *
  unfold ackV at *
  unfold pollV at *
  simp only at HC1 HC2 HC3 HSA HSB HSC ⊢
  go_enter Tryd.func7, Tryd.ntmps7
  go_wp2_with fail
  generalize (((W.alloc (.cells #[.int .u8 rt0, .int .u8 rt1, .int .u8 rt2, .int .u8 rt3, .int .u8 rt4, .int .u8 rt5, .int .u8 rf0, .int .u8 rf1, .int .u8 rf2, .int .u8 rf3, .int .u8 rf4, .int .u8 rf5, .int .i64 rtid, .int .i64 rseq] 25)).alloc (.cells #[.int .u8 at0, .int .u8 at1, .int .u8 at2, .int .u8 at3, .int .u8 at4, .int .u8 at5, .int .u8 af0, .int .u8 af1, .int .u8 af2, .int .u8 af3, .int .u8 af4, .int .u8 af5, .int .i64 atid, .int .i64 aseq, .int .u64 am] 28)).alloc (.cells #[.int .i64 paid, .int .u8 pt0, .int .u8 pt1, .int .u8 pt2, .int .u8 pt3, .int .u8 pt4, .int .u8 pt5, .int .u8 pf0, .int .u8 pf1, .int .u8 pf2, .int .u8 pf3, .int .u8 pf4, .int .u8 pf5] 30)) = wb at *
  refine (first_any wb).mono ?_
  rintro e w1 ⟨rfl, hg⟩
  have HW := Lib.hid hg
  clear hg
  have z0 := cell_of_row w1 (W.heap.size) 0 _ _ _ (HB0.out _ HW.out)
  have z1 := cell_of_row w1 (W.heap.size) 1 _ _ _ (HB0.out _ HW.out)
  have z2 := cell_of_row w1 (W.heap.size) 2 _ _ _ (HB0.out _ HW.out)
  have z3 := cell_of_row w1 (W.heap.size) 3 _ _ _ (HB0.out _ HW.out)
  have z4 := cell_of_row w1 (W.heap.size) 4 _ _ _ (HB0.out _ HW.out)
  have z5 := cell_of_row w1 (W.heap.size) 5 _ _ _ (HB0.out _ HW.out)
  have z6 := cell_of_row w1 (W.heap.size) 6 _ _ _ (HB0.out _ HW.out)
  have z7 := cell_of_row w1 (W.heap.size) 7 _ _ _ (HB0.out _ HW.out)
  have z8 := cell_of_row w1 (W.heap.size) 8 _ _ _ (HB0.out _ HW.out)
  have z9 := cell_of_row w1 (W.heap.size) 9 _ _ _ (HB0.out _ HW.out)
  have z10 := cell_of_row w1 (W.heap.size) 10 _ _ _ (HB0.out _ HW.out)
  have z11 := cell_of_row w1 (W.heap.size) 11 _ _ _ (HB0.out _ HW.out)
  have z12 := cell_of_row w1 (W.heap.size) 12 _ _ _ (HB0.out _ HW.out)
  have z13 := cell_of_row w1 (W.heap.size) 13 _ _ _ (HB0.out _ HW.out)
  simp only [List.getElem?_toArray, List.getElem?_cons_zero, List.getElem?_cons_succ] at z0 z1 z2 z3 z4 z5 z6 z7 z8 z9 z10 z11 z12 z13
  go_wp2_with fail
  refine (HC1.out _ (HWB.out _ HW.out)).mono ?_
  rintro e w2 ⟨p1, c1, rfl, hg, ho⟩
  have HBK := Lib.hid ho.blk
  have HO1 := Lib.hid (ho.weak (B' := wb.heap.size) HW.out.size)
  have HW := Lib.hid (HW.out.trans hg)
  clear hg ho z0 z1 z2 z3 z4 z5 z6 z7 z8 z9 z10 z11 z12 z13 HC1
  have z0 := cell_of_row w2 (W.heap.size + 1) 0 _ _ _ (HB1.out _ HW.out)
  have z1 := cell_of_row w2 (W.heap.size + 1) 1 _ _ _ (HB1.out _ HW.out)
  have z2 := cell_of_row w2 (W.heap.size + 1) 2 _ _ _ (HB1.out _ HW.out)
  have z3 := cell_of_row w2 (W.heap.size + 1) 3 _ _ _ (HB1.out _ HW.out)
  have z4 := cell_of_row w2 (W.heap.size + 1) 4 _ _ _ (HB1.out _ HW.out)
  have z5 := cell_of_row w2 (W.heap.size + 1) 5 _ _ _ (HB1.out _ HW.out)
  have z6 := cell_of_row w2 (W.heap.size + 1) 6 _ _ _ (HB1.out _ HW.out)
  have z7 := cell_of_row w2 (W.heap.size + 1) 7 _ _ _ (HB1.out _ HW.out)
  have z8 := cell_of_row w2 (W.heap.size + 1) 8 _ _ _ (HB1.out _ HW.out)
  have z9 := cell_of_row w2 (W.heap.size + 1) 9 _ _ _ (HB1.out _ HW.out)
  have z10 := cell_of_row w2 (W.heap.size + 1) 10 _ _ _ (HB1.out _ HW.out)
  have z11 := cell_of_row w2 (W.heap.size + 1) 11 _ _ _ (HB1.out _ HW.out)
  have z12 := cell_of_row w2 (W.heap.size + 1) 12 _ _ _ (HB1.out _ HW.out)
  have z13 := cell_of_row w2 (W.heap.size + 1) 13 _ _ _ (HB1.out _ HW.out)
  have z14 := cell_of_row w2 (W.heap.size + 1) 14 _ _ _ (HB1.out _ HW.out)
  simp only [List.getElem?_toArray, List.getElem?_cons_zero, List.getElem?_cons_succ] at z0 z1 z2 z3 z4 z5 z6 z7 z8 z9 z10 z11 z12 z13 z14
  go_wp2_with fail
  refine (HC2.out _ (HWB.out _ HW.out)).mono ?_
  rintro e w3 ⟨p2, c2, rfl, hg, ho⟩
  have HO1 := Lib.hid (HO1.out.gro hg (by simp))
  have HO2 := Lib.hid (ho)
  have HW := Lib.hid (HW.out.trans hg)
  have HSZ := Lib.hid hg.size
  clear hg ho z0 z1 z2 z3 z4 z5 z6 z7 z8 z9 z10 z11 z12 z13 z14 HC2
  have z0 := cell_of_row w3 (W.heap.size + 1 + 1) 0 _ _ _ (HB2.out _ HW.out)
  have z1 := cell_of_row w3 (W.heap.size + 1 + 1) 1 _ _ _ (HB2.out _ HW.out)
  have z2 := cell_of_row w3 (W.heap.size + 1 + 1) 2 _ _ _ (HB2.out _ HW.out)
  have z3 := cell_of_row w3 (W.heap.size + 1 + 1) 3 _ _ _ (HB2.out _ HW.out)
  have z4 := cell_of_row w3 (W.heap.size + 1 + 1) 4 _ _ _ (HB2.out _ HW.out)
  have z5 := cell_of_row w3 (W.heap.size + 1 + 1) 5 _ _ _ (HB2.out _ HW.out)
  have z6 := cell_of_row w3 (W.heap.size + 1 + 1) 6 _ _ _ (HB2.out _ HW.out)
  have z7 := cell_of_row w3 (W.heap.size + 1 + 1) 7 _ _ _ (HB2.out _ HW.out)
  have z8 := cell_of_row w3 (W.heap.size + 1 + 1) 8 _ _ _ (HB2.out _ HW.out)
  have z9 := cell_of_row w3 (W.heap.size + 1 + 1) 9 _ _ _ (HB2.out _ HW.out)
  have z10 := cell_of_row w3 (W.heap.size + 1 + 1) 10 _ _ _ (HB2.out _ HW.out)
  have z11 := cell_of_row w3 (W.heap.size + 1 + 1) 11 _ _ _ (HB2.out _ HW.out)
  have z12 := cell_of_row w3 (W.heap.size + 1 + 1) 12 _ _ _ (HB2.out _ HW.out)
  simp only [List.getElem?_toArray, List.getElem?_cons_zero, List.getElem?_cons_succ] at z0 z1 z2 z3 z4 z5 z6 z7 z8 z9 z10 z11 z12
  go_wp2_with fail
  refine (HC3.out _ (HWB.out _ HW.out)).mono ?_
  rintro e w4 ⟨p3, c3, rfl, hg, ho⟩
  have HO1 := Lib.hid (HO1.out.gro hg (by simp))
  have HO2 := Lib.hid (HO2.out.gro hg (by simp))
  have HO3 := Lib.hid (ho)
  have HW := Lib.hid (HW.out.trans hg)
  clear hg ho z0 z1 z2 z3 z4 z5 z6 z7 z8 z9 z10 z11 z12 HC3
  generalize hn1 : X1.length = n1 at *
  generalize hn2 : X2.length = n2 at *
  generalize hn3 : X3.length = n3 at *
  have HN := Lib.hid (And.intro hn1 (And.intro hn2 hn3))
  clear hn1 hn2 hn3
  go_upto_region 7 with fail
  go_cut [49] from 48 (fun v w => v = .bool (decide (okB rtid rseq)) ∧ w4 = w)
  case first =>
    by_cases hk : okB rtid rseq
    · have hu : u1 = .nilIface := HXU.out.1.2.trans (by unfold okK; rw [if_pos hk]; rfl)
      subst hu
      go_wp2_with fail
      go_meet
      case rel => exact ⟨by rw [decide_eq_true hk], rfl⟩
    · have hu : ∃ a, u1 = .iface 93 (.pointer (some a)) := ⟨A 2, HXU.out.1.2.trans (by unfold okK; rw [if_neg hk]; rfl)⟩
      obtain ⟨a1, rfl⟩ := hu
      go_wp2_with fail
      go_meet
      case rel => exact ⟨by rw [decide_eq_false hk], rfl⟩
  case rest =>
  obtain ⟨rfl, rfl⟩ := hcut
  generalize hd1 : decide (okB rtid rseq) = d1
  have HD := Lib.hid hd1
  clear hd1
  go_upto_if 49 with fail
  go_cut [] from 50 (fun w => Gro none wb w ∧ Own w2.heap.size w (.slice p2 n2 c2) X2 ∧ Own w3.heap.size w (.slice p3 n3 c3) X3)
  case first =>
    cases d1 with
    | true => as_aux_lemma =>
      have hk : okB rtid rseq := of_decide_eq_true HD.out
      have hX : X1 = asksL 132 ⟨rt0, rt1, rt2, rt3, rt4, rt5⟩ ⟨rf0, rf1, rf2, rf3, rf4, rf5⟩ rtid rseq := HXU.out.1.1.trans (by unfold okX; rw [if_pos hk])
      have hu : u1 = .nilIface := HXU.out.1.2.trans (by unfold okK; rw [if_pos hk]; rfl)
      have hlen : X1.length = 20 := by rw [hX]; exact asks_len _ _ _ _ _
      obtain rfl : n1 = 20 := HN.out.1.symm.trans hlen
      subst hu
      have hby : Bytes X1 := by rw [hX]; exact bytes_of (asks_mem (by decide) hk HBY.out.1.1 HBY.out.1.2)
      obtain ⟨q1, d1, eq1, hcp, hli, hbl⟩ := HO1.out.lie
      rw [hlen] at eq1 hcp
      injection eq1 with ea eb ec
      subst ea ec
      have HLI := Lib.hid (fun w' (k : Gro none w4 w') => hli.gro k (by simp))
      have HK := Lib.hid hk
      have R1 : Hid (∀ w', Gro none w4 w' → Calls Tryd.prog 21 #[.slice p1 20 c1] w' fun e w'' => e = .returned (.tuple #[.agg #[.int .u8 rt0, .int .u8 rt1, .int .u8 rt2, .int .u8 rt3, .int .u8 rt4, .int .u8 rt5, .int .u8 rf0, .int .u8 rf1, .int .u8 rf2, .int .u8 rf3, .int .u8 rf4, .int .u8 rf5, .int .i64 rtid, .int .i64 rseq], .nilIface]) ∧ Gro none w' w'') := fun w' k => by
        have kW := HWB.out _ (HW.out.trans k)
        have hl := HLI.out _ k
        have h := (readBar_any p1 c1 X1 W.heap.size A w' (HS4.out _ kW) kW.size (by rw [hlen]; exact hcp) hl hby (longR_same hlen (by rw [hX]; rfl)))
        rw [hlen] at h
        exact h.mono fun e w'' ⟨hy, _, hg⟩ => ⟨by rw [hy (hX ▸ isBar_asks _ _ _ _ hk), hX, asks_to, asks_fr, asks_tid _ _ _ _ _ hk, asks_seq]; rfl, hg⟩
      have R2 : Hid (∀ w', Gro none w4 w' → Calls Tryd.prog 18 #[.slice p1 20 c1] w' fun e w'' => e = .returned (.tuple #[.agg #[.int .u8 0, .int .u8 0, .int .u8 0, .int .u8 0, .int .u8 0, .int .u8 0, .int .u8 0, .int .u8 0, .int .u8 0, .int .u8 0, .int .u8 0, .int .u8 0, .int .i64 0, .int .i64 0, .int .u64 0], errV A 5]) ∧ Gro none w' w'') := fun w' k => by
        have kW := HWB.out _ (HW.out.trans k)
        have h5 : longR X1 148 28 = 5 := longR_kind (by omega) (by rw [hX]; exact (by decide : (132 : Int) ≠ 148))
        have h := readAck_bad p1 c1 X1 W.heap.size A w' (HS4.out _ kW) kW.size (HLI.out _ k) (by rw [h5]; decide)
        rw [hlen, h5] at h
        exact h
      have RK : Hid (∀ w', Lie w' p1 X1 → Calls Tryd.prog 27 #[.slice p1 20 c1] w' fun e w'' => e = .returned (.int .i64 132) ∧ w' = w'') := fun w' hl => by
        have h := kind_any p1 c1 X1 w' hl
        rw [hlen, show kindOf X1 = 132 from kindOf_at (by omega) (by rw [hX]; rfl) (by decide)] at h
        exact h
      have HX := Lib.hid hX
      have HLEN := Lib.hid hlen
      have HBL := Lib.hid hbl
      clear hX hlen hby hcp hli hbl hk HLI HK eb
      go_wp2_with fail
      refine (R1.out _ (Gro.refl _ _)).mono ?_
      rintro e v1 ⟨rfl, hg⟩
      have HV := Lib.hid hg
      have HT := Lib.hid (fun v' (k : Gro none (v1.alloc (.cells #[.int .u8 rt0, .int .u8 rt1, .int .u8 rt2, .int .u8 rt3, .int .u8 rt4, .int .u8 rt5, .int .u8 rf0, .int .u8 rf1, .int .u8 rf2, .int .u8 rf3, .int .u8 rf4, .int .u8 rf5, .int .i64 rtid, .int .i64 rseq] 25)) v') => (k.block v1.heap.size (by simp) (by simp)).trans (heap_alloc_new v1 (.cells #[.int .u8 rt0, .int .u8 rt1, .int .u8 rt2, .int .u8 rt3, .int .u8 rt4, .int .u8 rt5, .int .u8 rf0, .int .u8 rf1, .int .u8 rf2, .int .u8 rf3, .int .u8 rf4, .int .u8 rf5, .int .i64 rtid, .int .i64 rseq] 25)))
      clear hg
      go_wp2_with fail
      refine (R2.out _ (HV.out.alloc _)).mono ?_
      rintro e v2 ⟨rfl, hg⟩
      have HT2 := Lib.hid (HT.out v2 hg)
      have HV2 := Lib.hid ((HV.out.alloc _).trans hg)
      clear hg
      generalize hu5 : errV A 5 = u5
      have HU5 := Lib.hid hu5
      clear hu5
      go_wp2_with (at_builtin; refine app_keep rfl _ _ rfl wb X1 [0] _ rfl ?c1 ?c2 _ _ _ rfl ?c5 ?c3 ?c4 ?c6 ?_)
      case c1 => exact HO1.out.gro ((HV2.out.alloc _).alloc _) (by simp)
      case c2 => exact HW.out.trans ((HV2.out.alloc _).alloc _)
      case c5 => rfl
      case c3 => exact lie_one _ _ _ _ (by simp) (Gro.refl _ _)
      case c4 => rw [HLEN.out]; decide
      case c6 => rw [HLEN.out]; decide
      intro vA wA hoA hgA hkA hfA
      have HLA : Hid (Lie wA p1 X1) := by first | exact hkA HLEN.out.symm | exact hkA p1 c1 (by rw [HLEN.out])
      have hlen21 : (X1 ++ [0]).length = 21 := by rw [List.length_append, HLEN.out]; rfl
      obtain ⟨qA, dA, rfl, -, hlA, -⟩ := hoA.lie
      have RB : Hid (∀ w', Gro none wA w' → Calls Tryd.prog 21 #[.slice qA 21 dA] w' fun e w'' => e = .returned (.tuple #[.agg #[.int .u8 0, .int .u8 0, .int .u8 0, .int .u8 0, .int .u8 0, .int .u8 0, .int .u8 0, .int .u8 0, .int .u8 0, .int .u8 0, .int .u8 0, .int .u8 0, .int .i64 0, .int .i64 0], errV A 2]) ∧ Gro none w' w'') := fun w' k => by
        have kW := HWB.out _ (hgA.trans k)
        have h2 : longR (X1 ++ [0]) 132 20 = 2 := longR_more (by rw [hlen21]; decide) (by rw [getD_app _ _ _ (by rw [HLEN.out]; decide), HX.out]; rfl)
        have h := readBar_bad qA dA (X1 ++ [0]) W.heap.size A w' (HS4.out _ kW) kW.size (hlA.gro k (by simp)) (by rw [h2]; decide)
        rw [hlen21, h2] at h
        exact h
      have hne1 : some v1.heap.size ≠ (Value.slice p1 20 c1).ownBlock := by
        cases hp : p1 with
        | none => simp [Value.ownBlock]
        | some a =>
          have h1 := (HBL.out a hp).2
          have h2 := HV.out.size
          intro e
          have h3 := Option.some.inj e
          omega
      have HTA : Hid (wA.heap[v1.heap.size]? = some (.cells #[.int .u8 rt0, .int .u8 rt1, .int .u8 rt2, .int .u8 rt3, .int .u8 rt4, .int .u8 rt5, .int .u8 rf0, .int .u8 rf1, .int .u8 rf2, .int .u8 rf3, .int .u8 rf4, .int .u8 rf5, .int .i64 rtid, .int .i64 rseq] 25 (0, 0))) := (hfA v1.heap.size (by have h := blk_lt HT2.out; simp; omega) hne1).trans ((Below.heap_alloc _ _ _ (by have h := blk_lt HT2.out; simp; omega)).trans ((Below.heap_alloc _ _ _ (blk_lt HT2.out)).trans HT2.out))
      have HGA := Lib.hid hgA
      have I5 : Hid (∀ w', Gro none wb w' → Calls Tryd.prog 16 #[u5, .int .i64 105] w' fun e w'' => e = .returned (.bool true) ∧ Gro none w' w'') := fun w' k => HU5.out ▸ HIS.out w' (HWB.out _ k) 5 (by decide)
      have I2 : Hid (∀ w', Gro none wb w' → Calls Tryd.prog 16 #[errV A 2, .int .i64 102] w' fun e w'' => e = .returned (.bool true) ∧ Gro none w' w'') := fun w' k => HIS.out w' (HWB.out _ k) 2 (by decide)
      generalize errV A 2 = u22 at *
      rw [hlen21]
      have HFA : Hid (∀ B, B < ((v2.alloc (.cells #[.int .u8 0, .int .u8 0, .int .u8 0, .int .u8 0, .int .u8 0, .int .u8 0, .int .u8 0, .int .u8 0, .int .u8 0, .int .u8 0, .int .u8 0, .int .u8 0, .int .i64 0, .int .i64 0, .int .u64 0] 28)).alloc (.cells #[.int .u8 0] 5)).heap.size → some B ≠ (Value.slice p1 20 c1).ownBlock → wA.heap[B]? = ((v2.alloc (.cells #[.int .u8 0, .int .u8 0, .int .u8 0, .int .u8 0, .int .u8 0, .int .u8 0, .int .u8 0, .int .u8 0, .int .u8 0, .int .u8 0, .int .u8 0, .int .u8 0, .int .i64 0, .int .i64 0, .int .u64 0] 28)).alloc (.cells #[.int .u8 0] 5)).heap[B]?) := fun B h => hfA B (by simpa using h)
      clear hlA hoA hgA hkA hlen21 hne1 hfA
      go_wp2_with fail
      refine (RB.out _ (Gro.refl _ _)).mono ?_
      rintro e v3 ⟨rfl, hg⟩
      have HT3 := Lib.hid ((hg.block v1.heap.size (blk_lt HTA.out) (by simp)).trans HTA.out)
      have HV3 := Lib.hid (HGA.out.trans hg)
      have HLA := Lib.hid (HLA.out.gro hg (by simp))
      have HG3 := Lib.hid hg
      have hs1 : v1.heap.size < v3.heap.size := blk_lt HT3.out
      have hs2 : W.heap.size < v3.heap.size := blk_lt (HB0.out _ HV3.out)
      have y0 := cell_of_row v3 v1.heap.size 0 _ _ _ HT3.out
      have y1 := cell_of_row v3 v1.heap.size 1 _ _ _ HT3.out
      have y2 := cell_of_row v3 v1.heap.size 2 _ _ _ HT3.out
      have y3 := cell_of_row v3 v1.heap.size 3 _ _ _ HT3.out
      have y4 := cell_of_row v3 v1.heap.size 4 _ _ _ HT3.out
      have y5 := cell_of_row v3 v1.heap.size 5 _ _ _ HT3.out
      have y6 := cell_of_row v3 v1.heap.size 6 _ _ _ HT3.out
      have y7 := cell_of_row v3 v1.heap.size 7 _ _ _ HT3.out
      have y8 := cell_of_row v3 v1.heap.size 8 _ _ _ HT3.out
      have y9 := cell_of_row v3 v1.heap.size 9 _ _ _ HT3.out
      have y10 := cell_of_row v3 v1.heap.size 10 _ _ _ HT3.out
      have y11 := cell_of_row v3 v1.heap.size 11 _ _ _ HT3.out
      have y12 := cell_of_row v3 v1.heap.size 12 _ _ _ HT3.out
      have y13 := cell_of_row v3 v1.heap.size 13 _ _ _ HT3.out
      simp only [List.getElem?_toArray, List.getElem?_cons_zero, List.getElem?_cons_succ] at y0 y1 y2 y3 y4 y5 y6 y7 y8 y9 y10 y11 y12 y13
      have z0 := cell_of_row v3 (W.heap.size) 0 _ _ _ (HB0.out _ HV3.out)
      have z1 := cell_of_row v3 (W.heap.size) 1 _ _ _ (HB0.out _ HV3.out)
      have z2 := cell_of_row v3 (W.heap.size) 2 _ _ _ (HB0.out _ HV3.out)
      have z3 := cell_of_row v3 (W.heap.size) 3 _ _ _ (HB0.out _ HV3.out)
      have z4 := cell_of_row v3 (W.heap.size) 4 _ _ _ (HB0.out _ HV3.out)
      have z5 := cell_of_row v3 (W.heap.size) 5 _ _ _ (HB0.out _ HV3.out)
      have z6 := cell_of_row v3 (W.heap.size) 6 _ _ _ (HB0.out _ HV3.out)
      have z7 := cell_of_row v3 (W.heap.size) 7 _ _ _ (HB0.out _ HV3.out)
      have z8 := cell_of_row v3 (W.heap.size) 8 _ _ _ (HB0.out _ HV3.out)
      have z9 := cell_of_row v3 (W.heap.size) 9 _ _ _ (HB0.out _ HV3.out)
      have z10 := cell_of_row v3 (W.heap.size) 10 _ _ _ (HB0.out _ HV3.out)
      have z11 := cell_of_row v3 (W.heap.size) 11 _ _ _ (HB0.out _ HV3.out)
      have z12 := cell_of_row v3 (W.heap.size) 12 _ _ _ (HB0.out _ HV3.out)
      have z13 := cell_of_row v3 (W.heap.size) 13 _ _ _ (HB0.out _ HV3.out)
      simp only [List.getElem?_toArray, List.getElem?_cons_zero, List.getElem?_cons_succ] at z0 z1 z2 z3 z4 z5 z6 z7 z8 z9 z10 z11 z12 z13
      clear hg RB HTA
      go_wp2_with fail
      refine (HSA.out _).mono ?_
      rintro e v4 ⟨rfl, hg⟩
      have HV4 := Lib.hid ((HV3.out.alloc _).trans hg)
      have HLA := Lib.hid (HLA.out.gro (((Gro.refl none v3).alloc _).trans hg) (by simp))
      have HG4 := Lib.hid (HG3.out.trans (((Gro.refl none v3).alloc _).trans hg))
      clear hg z0 z1 z2 z3 z4 z5 z6 z7 z8 z9 z10 z11 z12 z13 y0 y1 y2 y3 y4 y5 y6 y7 y8 y9 y10 y11 y12 y13
      go_wp2_with fail
      refine (I5.out _ HV4.out).mono ?_
      rintro e v5 ⟨rfl, hg⟩
      have HV5 := Lib.hid (HV4.out.trans hg)
      have HLA := Lib.hid (HLA.out.gro hg (by simp))
      have HG5 := Lib.hid (HG4.out.trans hg)
      clear hg
      go_wp2_with fail
      refine (I2.out _ HV5.out).mono ?_
      rintro e v6 ⟨rfl, hg⟩
      have HV6 := Lib.hid (HV5.out.trans hg)
      have HLA := Lib.hid (HLA.out.gro hg (by simp))
      have HG6 := Lib.hid (HG5.out.trans hg)
      clear hg
      go_wp2_with fail
      refine (RK.out _ HLA.out).mono ?_
      rintro e w' ⟨rfl, rfl⟩
      have HO2 := Lib.hid (((HO2.out.gro ((HV2.out.alloc _).alloc _) (by simp)).keep HFA.out HBK.out).gro HG6.out (by simp))
      have HO3 := Lib.hid (((HO3.out.gro ((HV2.out.alloc _).alloc _) (by simp)).keep HFA.out (fun g e => Nat.lt_of_lt_of_le (HBK.out g e) HSZ.out)).gro HG6.out (by simp))
      have HW := Lib.hid HV6.out
      clear HV HV2 HV3 HV4 HV5 HV6 HG3 HG4 HG5 HG6 HLA HT HT2 HT3 R1 R2 RK I5 I2 HX HLEN HBL HFA HGA HU5 hs1 hs2
      go_wp2_with fail
      go_meet
      case rel => exact ⟨HW.out, HO2.out, HO3.out⟩
    | false =>
      go_wp2_with fail
      go_meet
      case rel => exact ⟨HW.out, HO2.out, HO3.out⟩
  case rest =>
  clear HW HO1 HD
  obtain ⟨v6, rfl⟩ : ∃ v, v = wc := ⟨_, rfl⟩
  clear HO2 HO3
  obtain ⟨hg, h2, h3⟩ := hcut
  have HW := Lib.hid hg
  have HO2 := Lib.hid h2
  have HO3 := Lib.hid h3
  clear hg h2 h3
  go_upto_region 13 with fail
  go_cut [91] from 90 (fun v w => v = .bool (decide (okB atid aseq)) ∧ v6 = w)
  case first =>
    by_cases hk : okB atid aseq
    · have hu : u2 = .nilIface := HXU.out.2.1.2.trans (by unfold okK; rw [if_pos hk]; rfl)
      subst hu
      go_wp2_with fail
      go_meet
      case rel => exact ⟨by rw [decide_eq_true hk], rfl⟩
    · have hu : ∃ a, u2 = .iface 93 (.pointer (some a)) := ⟨A 2, HXU.out.2.1.2.trans (by unfold okK; rw [if_neg hk]; rfl)⟩
      obtain ⟨a2, rfl⟩ := hu
      go_wp2_with fail
      go_meet
      case rel => exact ⟨by rw [decide_eq_false hk], rfl⟩
  case rest =>
  obtain ⟨rfl, rfl⟩ := hcut
  generalize hd2 : decide (okB atid aseq) = d2
  have HD := Lib.hid hd2
  clear hd2
  go_upto_if 91 with fail
  go_cut [] from 92 (fun w => Gro none wb w ∧ Own w3.heap.size w (.slice p3 n3 c3) X3)
  case first =>
    cases d2 with
    | true => as_aux_lemma =>
      have hk : okB atid aseq := of_decide_eq_true HD.out
      have hX : X2 = ackL ⟨at0, at1, at2, at3, at4, at5⟩ ⟨af0, af1, af2, af3, af4, af5⟩ atid aseq am := HXU.out.2.1.1.trans (by unfold okX; rw [if_pos hk])
      have hu : u2 = .nilIface := HXU.out.2.1.2.trans (by unfold okK; rw [if_pos hk]; rfl)
      have hlen : X2.length = 28 := by rw [hX]; exact ack_len _ _ _ _ _
      obtain rfl : n2 = 28 := HN.out.2.1.symm.trans hlen
      subst hu
      have hby : Bytes X2 := by rw [hX]; exact bytes_of (ack_mem hk HBY.out.2.1.1 HBY.out.2.1.2)
      obtain ⟨q2, d2, eq2, hcp, hli, hbl⟩ := HO2.out.lie
      rw [hlen] at eq2 hcp
      injection eq2 with ea eb ec
      subst ea ec
      have HLI := Lib.hid (fun w' (k : Gro none v6 w') => hli.gro k (by simp))
      have HK := Lib.hid hk
      have R1 : Hid (∀ w', Gro none v6 w' → Calls Tryd.prog 18 #[.slice p2 28 c2] w' fun e w'' => e = .returned (.tuple #[.agg #[.int .u8 at0, .int .u8 at1, .int .u8 at2, .int .u8 at3, .int .u8 at4, .int .u8 at5, .int .u8 af0, .int .u8 af1, .int .u8 af2, .int .u8 af3, .int .u8 af4, .int .u8 af5, .int .i64 atid, .int .i64 aseq, .int .u64 am], .nilIface]) ∧ Gro none w' w'') := fun w' k => by
        have kW := HWB.out _ (HW.out.trans k)
        have hl := HLI.out _ k
        have h := (readAck_any p2 c2 X2 W.heap.size A w' (HS4.out _ kW) kW.size (by rw [hlen]; exact hcp) hl hby (longR_same hlen (by rw [hX]; rfl)))
        rw [hlen] at h
        exact h.mono fun e w'' ⟨hy, _, hg⟩ => ⟨by rw [hy (hX ▸ isAck_ack _ _ _ _ _ hk HBY.out.2.2.2.1 HBY.out.2.2.2.2), hX, ack_to, ack_fr, ack_tid _ _ _ _ _ hk, ack_seq, map_ack _ _ _ _ _ HBY.out.2.2.2.1 HBY.out.2.2.2.2]; rfl, hg⟩
      have R2 : Hid (∀ w', Gro none v6 w' → Calls Tryd.prog 20 #[.slice p2 28 c2] w' fun e w'' => e = .returned (.tuple #[.agg #[.int .i64 0, .int .u8 0, .int .u8 0, .int .u8 0, .int .u8 0, .int .u8 0, .int .u8 0, .int .u8 0, .int .u8 0, .int .u8 0, .int .u8 0, .int .u8 0, .int .u8 0], errV A 5]) ∧ Gro none w' w'') := fun w' k => by
        have kW := HWB.out _ (HW.out.trans k)
        have h5 : longR X2 164 16 = 5 := longR_kind (by omega) (by rw [hX]; exact (by decide : (148 : Int) ≠ 164))
        have h := readPoll_bad p2 c2 X2 W.heap.size A w' (HS4.out _ kW) kW.size (HLI.out _ k) (by rw [h5]; decide)
        rw [hlen, h5] at h
        exact h
      have RK : Hid (∀ w', Lie w' p2 X2 → Calls Tryd.prog 27 #[.slice p2 28 c2] w' fun e w'' => e = .returned (.int .i64 148) ∧ w' = w'') := fun w' hl => by
        have h := kind_any p2 c2 X2 w' hl
        rw [hlen, show kindOf X2 = 148 from kindOf_at (by omega) (by rw [hX]; rfl) (by decide)] at h
        exact h
      have R3 : Hid (∀ w', Gro none v6 w' → Calls Tryd.prog 18 #[.slice p2 27 c2] w' fun e w'' => e = .returned (.tuple #[.agg #[.int .u8 0, .int .u8 0, .int .u8 0, .int .u8 0, .int .u8 0, .int .u8 0, .int .u8 0, .int .u8 0, .int .u8 0, .int .u8 0, .int .u8 0, .int .u8 0, .int .i64 0, .int .i64 0, .int .u64 0], errV A 1]) ∧ Gro none w' w'') := fun w' k => by
        have kW := HWB.out _ (HW.out.trans k)
        have hlt : (X2.take 27).length = 27 := by rw [List.length_take, hlen]; rfl
        have h1 : longR (X2.take 27) 148 28 = 1 := longR_less (by rw [hlt]; decide) (by rw [hX]; rfl)
        have hl : Lie w' p2 (X2.take 27) := lie_prefix (ys := X2.drop 27) (by rw [List.take_append_drop]; exact HLI.out _ k)
        have h := readAck_bad p2 c2 (X2.take 27) W.heap.size A w' (HS4.out _ kW) kW.size hl (by rw [h1]; decide)
        rw [hlt, h1] at h
        exact h
      have HLI2 := Lib.hid HLI.out
      have HCP := Lib.hid hcp
      have HX := Lib.hid hX
      have HLEN := Lib.hid hlen
      have HBL := Lib.hid hbl
      clear hX hlen hby hcp hli hbl hk HLI HK eb
      go_wp2_with fail
      refine (R1.out _ (Gro.refl _ _)).mono ?_
      rintro e x1 ⟨rfl, hg⟩
      have HV := Lib.hid hg
      have HT := Lib.hid (fun v' (k : Gro none (x1.alloc (.cells #[.int .u8 at0, .int .u8 at1, .int .u8 at2, .int .u8 at3, .int .u8 at4, .int .u8 at5, .int .u8 af0, .int .u8 af1, .int .u8 af2, .int .u8 af3, .int .u8 af4, .int .u8 af5, .int .i64 atid, .int .i64 aseq, .int .u64 am] 28)) v') => (k.block x1.heap.size (by simp) (by simp)).trans (heap_alloc_new x1 (.cells #[.int .u8 at0, .int .u8 at1, .int .u8 at2, .int .u8 at3, .int .u8 at4, .int .u8 at5, .int .u8 af0, .int .u8 af1, .int .u8 af2, .int .u8 af3, .int .u8 af4, .int .u8 af5, .int .i64 atid, .int .i64 aseq, .int .u64 am] 28)))
      clear hg
      go_wp2_with fail
      refine (R2.out _ (HV.out.alloc _)).mono ?_
      rintro e x2 ⟨rfl, hg⟩
      have HT2 := Lib.hid (HT.out x2 hg)
      have HV2 := Lib.hid ((HV.out.alloc _).trans hg)
      clear hg
      have I5 : Hid (∀ w', Gro none wb w' → Calls Tryd.prog 16 #[errV A 5, .int .i64 105] w' fun e w'' => e = .returned (.bool true) ∧ Gro none w' w'') := fun w' k => HIS.out w' (HWB.out _ k) 5 (by decide)
      generalize errV A 5 = xu5 at *
      have i27 : (27 : Int) ≤ (c2 : Int) := by have := HCP.out; omega
      have j27 : 27 ≤ c2 := by have := HCP.out; omega
      have I1 : Hid (∀ w', Gro none wb w' → Calls Tryd.prog 16 #[errV A 1, .int .i64 101] w' fun e w'' => e = .returned (.bool true) ∧ Gro none w' w'') := fun w' k => HIS.out w' (HWB.out _ k) 1 (by decide)
      generalize errV A 1 = xu1 at *
      go_wp2_with fail
      refine (R3.out _ (HV2.out.alloc _)).mono ?_
      rintro e x3 ⟨rfl, hg⟩
      have HT3 := Lib.hid ((hg.block x1.heap.size (by have h := blk_lt HT2.out; simp; omega) (by simp)).trans ((Below.heap_alloc _ _ _ (blk_lt HT2.out)).trans HT2.out))
      have HV3 := Lib.hid ((HV2.out.alloc _).trans hg)
      clear hg
      have HVW := Lib.hid (HW.out.trans HV3.out)
      have hs1 : x1.heap.size < x3.heap.size := blk_lt HT3.out
      have hs2 : W.heap.size + 1 < x3.heap.size := blk_lt (HB1.out _ HVW.out)
      have y0 := cell_of_row x3 x1.heap.size 0 _ _ _ HT3.out
      have y1 := cell_of_row x3 x1.heap.size 1 _ _ _ HT3.out
      have y2 := cell_of_row x3 x1.heap.size 2 _ _ _ HT3.out
      have y3 := cell_of_row x3 x1.heap.size 3 _ _ _ HT3.out
      have y4 := cell_of_row x3 x1.heap.size 4 _ _ _ HT3.out
      have y5 := cell_of_row x3 x1.heap.size 5 _ _ _ HT3.out
      have y6 := cell_of_row x3 x1.heap.size 6 _ _ _ HT3.out
      have y7 := cell_of_row x3 x1.heap.size 7 _ _ _ HT3.out
      have y8 := cell_of_row x3 x1.heap.size 8 _ _ _ HT3.out
      have y9 := cell_of_row x3 x1.heap.size 9 _ _ _ HT3.out
      have y10 := cell_of_row x3 x1.heap.size 10 _ _ _ HT3.out
      have y11 := cell_of_row x3 x1.heap.size 11 _ _ _ HT3.out
      have y12 := cell_of_row x3 x1.heap.size 12 _ _ _ HT3.out
      have y13 := cell_of_row x3 x1.heap.size 13 _ _ _ HT3.out
      have y14 := cell_of_row x3 x1.heap.size 14 _ _ _ HT3.out
      simp only [List.getElem?_toArray, List.getElem?_cons_zero, List.getElem?_cons_succ] at y0 y1 y2 y3 y4 y5 y6 y7 y8 y9 y10 y11 y12 y13 y14
      have z0 := cell_of_row x3 (W.heap.size + 1) 0 _ _ _ (HB1.out _ HVW.out)
      have z1 := cell_of_row x3 (W.heap.size + 1) 1 _ _ _ (HB1.out _ HVW.out)
      have z2 := cell_of_row x3 (W.heap.size + 1) 2 _ _ _ (HB1.out _ HVW.out)
      have z3 := cell_of_row x3 (W.heap.size + 1) 3 _ _ _ (HB1.out _ HVW.out)
      have z4 := cell_of_row x3 (W.heap.size + 1) 4 _ _ _ (HB1.out _ HVW.out)
      have z5 := cell_of_row x3 (W.heap.size + 1) 5 _ _ _ (HB1.out _ HVW.out)
      have z6 := cell_of_row x3 (W.heap.size + 1) 6 _ _ _ (HB1.out _ HVW.out)
      have z7 := cell_of_row x3 (W.heap.size + 1) 7 _ _ _ (HB1.out _ HVW.out)
      have z8 := cell_of_row x3 (W.heap.size + 1) 8 _ _ _ (HB1.out _ HVW.out)
      have z9 := cell_of_row x3 (W.heap.size + 1) 9 _ _ _ (HB1.out _ HVW.out)
      have z10 := cell_of_row x3 (W.heap.size + 1) 10 _ _ _ (HB1.out _ HVW.out)
      have z11 := cell_of_row x3 (W.heap.size + 1) 11 _ _ _ (HB1.out _ HVW.out)
      have z12 := cell_of_row x3 (W.heap.size + 1) 12 _ _ _ (HB1.out _ HVW.out)
      have z13 := cell_of_row x3 (W.heap.size + 1) 13 _ _ _ (HB1.out _ HVW.out)
      have z14 := cell_of_row x3 (W.heap.size + 1) 14 _ _ _ (HB1.out _ HVW.out)
      simp only [List.getElem?_toArray, List.getElem?_cons_zero, List.getElem?_cons_succ] at z0 z1 z2 z3 z4 z5 z6 z7 z8 z9 z10 z11 z12 z13 z14
      go_wp2_with fail
      refine (HSB.out _).mono ?_
      rintro e x4 ⟨rfl, hg⟩
      have HV4 := Lib.hid ((HV3.out.alloc _).trans hg)
      clear hg z0 z1 z2 z3 z4 z5 z6 z7 z8 z9 z10 z11 z12 z13 z14 y0 y1 y2 y3 y4 y5 y6 y7 y8 y9 y10 y11 y12 y13 y14
      go_wp2_with fail
      refine (I5.out _ (HW.out.trans HV4.out)).mono ?_
      rintro e x5 ⟨rfl, hg⟩
      have HV5 := Lib.hid (HV4.out.trans hg)
      clear hg
      go_wp2_with fail
      refine (I1.out _ (HW.out.trans HV5.out)).mono ?_
      rintro e x6 ⟨rfl, hg⟩
      have HV5 := Lib.hid (HV5.out.trans hg)
      clear hg
      go_wp2_with fail
      refine (RK.out _ (HLI2.out _ HV5.out)).mono ?_
      rintro e w' ⟨rfl, rfl⟩
      have HO3 := Lib.hid (HO3.out.gro HV5.out (by simp))
      have HW := Lib.hid (HW.out.trans HV5.out)
      clear HV HV2 HV3 HV4 HV5 HVW HT HT2 HT3 R1 R2 RK I5 HX HLEN HBL HLI2 HCP hs1 hs2 R3 I1 i27 j27
      obtain ⟨z0, rfl⟩ : ∃ v, v = x6 := ⟨_, rfl⟩
      go_wp2_with fail
      go_meet
      case rel => exact ⟨HW.out, HO3.out⟩
    | false =>
      go_wp2_with fail
      go_meet
      case rel => exact ⟨HW.out, HO3.out⟩
  case rest =>
  clear HW HO2 HD
  obtain ⟨z0, rfl⟩ : ∃ v, v = wc := ⟨_, rfl⟩
  clear HO3
  obtain ⟨hg, h3⟩ := hcut
  have HW := Lib.hid hg
  have HO3 := Lib.hid h3
  clear hg h3
  go_upto_region 19 with fail
  go_cut [132] from 131 (fun v w => v = .bool (decide (okP paid)) ∧ z0 = w)
  case first =>
    by_cases hk : okP paid
    · have hu : u3 = .nilIface := HXU.out.2.2.2.trans (by unfold okK; rw [if_pos hk]; rfl)
      subst hu
      go_wp2_with fail
      go_meet
      case rel => exact ⟨by rw [decide_eq_true hk], rfl⟩
    · have hu : ∃ a, u3 = .iface 93 (.pointer (some a)) := ⟨A 2, HXU.out.2.2.2.trans (by unfold okK; rw [if_neg hk]; rfl)⟩
      obtain ⟨a3, rfl⟩ := hu
      go_wp2_with fail
      go_meet
      case rel => exact ⟨by rw [decide_eq_false hk], rfl⟩
  case rest =>
  obtain ⟨rfl, rfl⟩ := hcut
  generalize hd3 : decide (okP paid) = d3
  have HD := Lib.hid hd3
  clear hd3
  go_upto_if 132 with fail
  go_cut [] from 133 (fun w => Gro none wb w)
  case first =>
    cases d3 with
    | true => as_aux_lemma =>
      have hk : okP paid := of_decide_eq_true HD.out
      have hX : X3 = pollL paid ⟨pt0, pt1, pt2, pt3, pt4, pt5⟩ ⟨pf0, pf1, pf2, pf3, pf4, pf5⟩ := HXU.out.2.2.1.trans (by unfold okX; rw [if_pos hk])
      have hu : u3 = .nilIface := HXU.out.2.2.2.trans (by unfold okK; rw [if_pos hk]; rfl)
      have hlen : X3.length = 16 := by rw [hX]; exact (rfl : (pollL paid ⟨pt0, pt1, pt2, pt3, pt4, pt5⟩ ⟨pf0, pf1, pf2, pf3, pf4, pf5⟩).length = 16)
      obtain rfl : n3 = 16 := HN.out.2.2.symm.trans hlen
      subst hu
      have hby : Bytes X3 := by rw [hX]; exact bytes_of (poll_mem hk HBY.out.2.2.1.1 HBY.out.2.2.1.2)
      obtain ⟨q3, d3, eq3, hcp, hli, hbl⟩ := HO3.out.lie
      rw [hlen] at eq3 hcp
      injection eq3 with ea eb ec
      subst ea ec
      have HLI := Lib.hid (fun w' (k : Gro none z0 w') => hli.gro k (by simp))
      have HK := Lib.hid hk
      have R1 : Hid (∀ w', Gro none z0 w' → Calls Tryd.prog 20 #[.slice p3 16 c3] w' fun e w'' => e = .returned (.tuple #[.agg #[.int .i64 paid, .int .u8 pt0, .int .u8 pt1, .int .u8 pt2, .int .u8 pt3, .int .u8 pt4, .int .u8 pt5, .int .u8 pf0, .int .u8 pf1, .int .u8 pf2, .int .u8 pf3, .int .u8 pf4, .int .u8 pf5], .nilIface]) ∧ Gro none w' w'') := fun w' k => by
        have kW := HWB.out _ (HW.out.trans k)
        have hl := HLI.out _ k
        have h := (readPoll_any p3 c3 X3 W.heap.size A w' (HS4.out _ kW) kW.size (by rw [hlen]; exact hcp) hl hby (longR_same hlen (by rw [hX]; rfl)))
        rw [hlen] at h
        exact h.mono fun e w'' ⟨he, hg⟩ => ⟨by rw [he, show pollR X3 = 0 from hX ▸ pollR_poll _ _ _ hk, if_pos rfl, hX, poll_num, poll_to, poll_fr]; rfl, hg⟩
      have R2 : Hid (∀ w', Gro none z0 w' → Calls Tryd.prog 21 #[.slice p3 16 c3] w' fun e w'' => e = .returned (.tuple #[.agg #[.int .u8 0, .int .u8 0, .int .u8 0, .int .u8 0, .int .u8 0, .int .u8 0, .int .u8 0, .int .u8 0, .int .u8 0, .int .u8 0, .int .u8 0, .int .u8 0, .int .i64 0, .int .i64 0], errV A 5]) ∧ Gro none w' w'') := fun w' k => by
        have kW := HWB.out _ (HW.out.trans k)
        have h5 : longR X3 132 20 = 5 := longR_kind (by omega) (by rw [hX]; exact (by decide : (164 : Int) ≠ 132))
        have h := readBar_bad p3 c3 X3 W.heap.size A w' (HS4.out _ kW) kW.size (HLI.out _ k) (by rw [h5]; decide)
        rw [hlen, h5] at h
        exact h
      have RK : Hid (∀ w', Lie w' p3 X3 → Calls Tryd.prog 27 #[.slice p3 16 c3] w' fun e w'' => e = .returned (.int .i64 164) ∧ w' = w'') := fun w' hl => by
        have h := kind_any p3 c3 X3 w' hl
        rw [hlen, show kindOf X3 = 164 from kindOf_at (by omega) (by rw [hX]; rfl) (by decide)] at h
        exact h
      have HLI2 := Lib.hid HLI.out
      have HCP := Lib.hid hcp
      have HX := Lib.hid hX
      have HLEN := Lib.hid hlen
      have HBL := Lib.hid hbl
      clear hX hlen hby hcp hli hbl hk HLI HK eb
      go_wp2_with fail
      refine (R1.out _ (Gro.refl _ _)).mono ?_
      rintro e k1 ⟨rfl, hg⟩
      have HV := Lib.hid hg
      have HT := Lib.hid (fun v' (k : Gro none (k1.alloc (.cells #[.int .i64 paid, .int .u8 pt0, .int .u8 pt1, .int .u8 pt2, .int .u8 pt3, .int .u8 pt4, .int .u8 pt5, .int .u8 pf0, .int .u8 pf1, .int .u8 pf2, .int .u8 pf3, .int .u8 pf4, .int .u8 pf5] 30)) v') => (k.block k1.heap.size (by simp) (by simp)).trans (heap_alloc_new k1 (.cells #[.int .i64 paid, .int .u8 pt0, .int .u8 pt1, .int .u8 pt2, .int .u8 pt3, .int .u8 pt4, .int .u8 pt5, .int .u8 pf0, .int .u8 pf1, .int .u8 pf2, .int .u8 pf3, .int .u8 pf4, .int .u8 pf5] 30)))
      clear hg
      go_wp2_with fail
      refine (R2.out _ (HV.out.alloc _)).mono ?_
      rintro e k2 ⟨rfl, hg⟩
      have HT2 := Lib.hid (HT.out k2 hg)
      have HV2 := Lib.hid ((HV.out.alloc _).trans hg)
      clear hg
      have I5 : Hid (∀ w', Gro none wb w' → Calls Tryd.prog 16 #[errV A 5, .int .i64 105] w' fun e w'' => e = .returned (.bool true) ∧ Gro none w' w'') := fun w' k => HIS.out w' (HWB.out _ k) 5 (by decide)
      generalize errV A 5 = ku5 at *
      have HT3 := Lib.hid HT2.out
      have HV3 := Lib.hid HV2.out
      have HVW := Lib.hid (HW.out.trans HV3.out)
      have hs1 : k1.heap.size < k2.heap.size := blk_lt HT3.out
      have hs2 : W.heap.size + 1 + 1 < k2.heap.size := blk_lt (HB2.out _ HVW.out)
      have y0 := cell_of_row k2 k1.heap.size 0 _ _ _ HT3.out
      have y1 := cell_of_row k2 k1.heap.size 1 _ _ _ HT3.out
      have y2 := cell_of_row k2 k1.heap.size 2 _ _ _ HT3.out
      have y3 := cell_of_row k2 k1.heap.size 3 _ _ _ HT3.out
      have y4 := cell_of_row k2 k1.heap.size 4 _ _ _ HT3.out
      have y5 := cell_of_row k2 k1.heap.size 5 _ _ _ HT3.out
      have y6 := cell_of_row k2 k1.heap.size 6 _ _ _ HT3.out
      have y7 := cell_of_row k2 k1.heap.size 7 _ _ _ HT3.out
      have y8 := cell_of_row k2 k1.heap.size 8 _ _ _ HT3.out
      have y9 := cell_of_row k2 k1.heap.size 9 _ _ _ HT3.out
      have y10 := cell_of_row k2 k1.heap.size 10 _ _ _ HT3.out
      have y11 := cell_of_row k2 k1.heap.size 11 _ _ _ HT3.out
      have y12 := cell_of_row k2 k1.heap.size 12 _ _ _ HT3.out
      simp only [List.getElem?_toArray, List.getElem?_cons_zero, List.getElem?_cons_succ] at y0 y1 y2 y3 y4 y5 y6 y7 y8 y9 y10 y11 y12
      have z0 := cell_of_row k2 (W.heap.size + 1 + 1) 0 _ _ _ (HB2.out _ HVW.out)
      have z1 := cell_of_row k2 (W.heap.size + 1 + 1) 1 _ _ _ (HB2.out _ HVW.out)
      have z2 := cell_of_row k2 (W.heap.size + 1 + 1) 2 _ _ _ (HB2.out _ HVW.out)
      have z3 := cell_of_row k2 (W.heap.size + 1 + 1) 3 _ _ _ (HB2.out _ HVW.out)
      have z4 := cell_of_row k2 (W.heap.size + 1 + 1) 4 _ _ _ (HB2.out _ HVW.out)
      have z5 := cell_of_row k2 (W.heap.size + 1 + 1) 5 _ _ _ (HB2.out _ HVW.out)
      have z6 := cell_of_row k2 (W.heap.size + 1 + 1) 6 _ _ _ (HB2.out _ HVW.out)
      have z7 := cell_of_row k2 (W.heap.size + 1 + 1) 7 _ _ _ (HB2.out _ HVW.out)
      have z8 := cell_of_row k2 (W.heap.size + 1 + 1) 8 _ _ _ (HB2.out _ HVW.out)
      have z9 := cell_of_row k2 (W.heap.size + 1 + 1) 9 _ _ _ (HB2.out _ HVW.out)
      have z10 := cell_of_row k2 (W.heap.size + 1 + 1) 10 _ _ _ (HB2.out _ HVW.out)
      have z11 := cell_of_row k2 (W.heap.size + 1 + 1) 11 _ _ _ (HB2.out _ HVW.out)
      have z12 := cell_of_row k2 (W.heap.size + 1 + 1) 12 _ _ _ (HB2.out _ HVW.out)
      simp only [List.getElem?_toArray, List.getElem?_cons_zero, List.getElem?_cons_succ] at z0 z1 z2 z3 z4 z5 z6 z7 z8 z9 z10 z11 z12
      go_wp2_with fail
      refine (HSC.out _).mono ?_
      rintro e k4 ⟨rfl, hg⟩
      have HV4 := Lib.hid ((HV3.out.alloc _).trans hg)
      clear hg z0 z1 z2 z3 z4 z5 z6 z7 z8 z9 z10 z11 z12 y0 y1 y2 y3 y4 y5 y6 y7 y8 y9 y10 y11 y12
      go_wp2_with fail
      refine (I5.out _ (HW.out.trans HV4.out)).mono ?_
      rintro e k5 ⟨rfl, hg⟩
      have HV5 := Lib.hid (HV4.out.trans hg)
      clear hg
      go_wp2_with fail
      refine (RK.out _ (HLI2.out _ HV5.out)).mono ?_
      rintro e w' ⟨rfl, rfl⟩
      have HW := Lib.hid (HW.out.trans HV5.out)
      clear HV HV2 HV3 HV4 HV5 HVW HT HT2 HT3 R1 R2 RK I5 HX HLEN HBL HLI2 HCP hs1 hs2
      obtain ⟨q0, rfl⟩ : ∃ v, v = k5 := ⟨_, rfl⟩
      go_wp2_with fail
      go_meet
      case rel => exact HW.out
    | false =>
      go_wp2_with fail
      go_meet
      case rel => exact HW.out
  case rest =>
  clear HW HO3 HD
  obtain ⟨q0, rfl⟩ : ∃ v, v = wc := ⟨_, rfl⟩
  have HW := Lib.hid hcut
  clear hcut
  go_wp2_with fail
  go_ret
  exact ⟨rfl, (Far.refl _ _).gro (HWB.out _ HW.out) (Nat.le_refl _) (fun _ e => by cases e)⟩
end Go.Proofs.YtadcpoglkmklhaaDoor
