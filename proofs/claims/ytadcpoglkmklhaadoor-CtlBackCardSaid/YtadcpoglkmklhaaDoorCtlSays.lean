/-
  THE WALK OF CtlSays: the bytes of any control frames are what the chapter says; it answers true. No condition but the fourteen sentinels' own ('Sent') and that the map is a number of 64 bits.
-/
import Derived.Test.YtadcpoglkmklhaaDoorCtlRef
import Derived.Test.YtadcpoglkmklhaaDoorFrame
namespace Go.Proofs.YtadcpoglkmklhaaDoor
open Go.RowKit

def okK (p : Prop) [Decidable p] : Nat := if p then 0 else 3
def okX (p : Prop) [Decidable p] (L : List Int) : List Int := if p then L else []
theorem okK_lt (p : Prop) [Decidable p] : okK p < 15 := by unfold okK; split <;> decide
theorem okX_le {p : Prop} [Decidable p] {L : List Int} (h : L.length ≤ 100) : (okX p L).length ≤ 100000 := by
  unfold okX
  split
  · omega
  · exact Nat.zero_le _
/-- What came back: a slice of its own with the bytes X, and u. -/
def Wrote (w w' : World) (e : Ending) (X : List Int) (u : Value) : Prop := ∃ p cap, e = .returned (.tuple #[.slice p X.length cap, u]) ∧ Gro none w w' ∧ Lie w' p X
theorem Own.wrote {B : Nat} {w w' : World} {v u : Value} {X : List Int} (h : Own B w' v X) (k : Gro none w w') : Wrote w w' (.returned (.tuple #[v, u])) X u := by
  obtain ⟨p, cap, rfl, _, hl, _⟩ := h.lie
  exact ⟨p, cap, rfl, k, hl⟩
theorem same_self (p q : Option Addr) (c d : Nat) (X : List Int) (w : World) (hx : Lie w p X) (hy : Lie w q X) (hb : X.length ≤ 100000) : Calls Tryd.prog 15 #[.slice p X.length c, .slice q X.length d] w fun e w' => e = .returned (.bool true) ∧ Gro none w w' :=
  (sameBytes_any p q c d X X w hx hy hb).mono fun e w' ⟨he, hg⟩ => ⟨by rw [he, decide_eq_true rfl], hg⟩
theorem bar_wrote (B : Nat) (A : Nat → Addr) (W w : World) (hs : Sent B W A) (hB : B ≤ W.heap.size) (k : Gro none W w) (to fr : Ad) (tid seq : Int) :
    Calls Tryd.prog 9 #[barV to fr tid seq] w fun e w' => Wrote w w' e (okX (okB tid seq) (asksL 132 to fr tid seq)) (errV A (okK (okB tid seq))) := by
  have hs' : Sent B w A := hs.far fun i hi => k.block i (by omega) (by simp)
  unfold okX okK
  by_cases h : okB tid seq
  · rw [if_pos h, if_pos h]
    exact (bar_any _ _ _ _ w h).mono fun e w' ⟨v, he, hg, ho⟩ => he ▸ ho.wrote hg
  · rw [if_neg h, if_neg h]
    exact (bar_bad _ _ _ _ _ w h hs'.c2 (by have := k.size; have := hs.big; omega)).mono fun e w' ⟨he, hg⟩ => he ▸ ⟨none, 0, rfl, hg, Lie.nil _ _⟩
theorem ack_wrote (B : Nat) (A : Nat → Addr) (W w : World) (hs : Sent B W A) (hB : B ≤ W.heap.size) (k : Gro none W w) (to fr : Ad) (tid seq m : Int) (hm : 0 ≤ m ∧ m < 18446744073709551616) :
    Calls Tryd.prog 10 #[ackV to fr tid seq m] w fun e w' => Wrote w w' e (okX (okB tid seq) (ackL to fr tid seq m)) (errV A (okK (okB tid seq))) := by
  have hs' : Sent B w A := hs.far fun i hi => k.block i (by omega) (by simp)
  unfold okX okK
  by_cases h : okB tid seq
  · rw [if_pos h, if_pos h]
    exact (ack_any _ _ _ _ _ w h hm).mono fun e w' ⟨v, he, hg, ho⟩ => he ▸ ho.wrote hg
  · rw [if_neg h, if_neg h]
    exact (ack_bad _ _ _ _ _ _ w h hs'.c2 (by have := k.size; have := hs.big; omega)).mono fun e w' ⟨he, hg⟩ => he ▸ ⟨none, 0, rfl, hg, Lie.nil _ _⟩
theorem poll_wrote (B : Nat) (A : Nat → Addr) (W w : World) (hs : Sent B W A) (hB : B ≤ W.heap.size) (k : Gro none W w) (aid : Int) (to fr : Ad) :
    Calls Tryd.prog 11 #[pollV aid to fr] w fun e w' => Wrote w w' e (okX (okP aid) (pollL aid to fr)) (errV A (okK (okP aid))) := by
  have hs' : Sent B w A := hs.far fun i hi => k.block i (by omega) (by simp)
  unfold okX okK
  by_cases h : okP aid
  · rw [if_pos h, if_pos h]
    exact (poll_any _ _ _ w h).mono fun e w' ⟨v, he, hg, ho⟩ => he ▸ ho.wrote hg
  · rw [if_neg h, if_neg h]
    exact (poll_bad _ _ _ _ w h hs'.c2 (by have := k.size; have := hs.big; omega)).mono fun e w' ⟨he, hg⟩ => he ▸ ⟨none, 0, rfl, hg, Lie.nil _ _⟩
theorem rbar_wrote (w : World) (to fr : Ad) (tid seq : Int) : Calls Tryd.prog 12 #[barV to fr tid seq] w fun e w' => Wrote w w' e (okX (okB tid seq) (asksL 132 to fr tid seq)) (.int .i64 (codeOf (okK (okB tid seq)))) := by
  unfold okX okK
  by_cases h : okB tid seq
  · rw [if_pos h, if_pos h]
    exact (rbar_any _ _ _ _ w h).mono fun e w' ⟨v, he, hg, ho⟩ => he ▸ ho.wrote hg
  · rw [if_neg h, if_neg h]
    exact (rbar_bad _ _ _ _ w h).mono fun e w' ⟨he, hg⟩ => he ▸ ⟨none, 0, rfl, hg, Lie.nil _ _⟩
theorem rack_wrote (w : World) (to fr : Ad) (tid seq m : Int) (hm : 0 ≤ m ∧ m < 18446744073709551616) : Calls Tryd.prog 13 #[ackV to fr tid seq m] w fun e w' => Wrote w w' e (okX (okB tid seq) (ackL to fr tid seq m)) (.int .i64 (codeOf (okK (okB tid seq)))) := by
  unfold okX okK
  by_cases h : okB tid seq
  · rw [if_pos h, if_pos h]
    exact (rack_any _ _ _ _ _ w h hm).mono fun e w' ⟨v, he, hg, ho⟩ => he ▸ ho.wrote hg
  · rw [if_neg h, if_neg h]
    exact (rack_bad _ _ _ _ _ w h).mono fun e w' ⟨he, hg⟩ => he ▸ ⟨none, 0, rfl, hg, Lie.nil _ _⟩
theorem rpoll_wrote (w : World) (aid : Int) (to fr : Ad) : Calls Tryd.prog 14 #[pollV aid to fr] w fun e w' => Wrote w w' e (okX (okP aid) (pollL aid to fr)) (.int .i64 (codeOf (okK (okP aid)))) := by
  unfold okX okK
  by_cases h : okP aid
  · rw [if_pos h, if_pos h]
    exact (rpoll_any _ _ _ w h).mono fun e w' ⟨v, he, hg, ho⟩ => he ▸ ho.wrote hg
  · rw [if_neg h, if_neg h]
    exact (rpoll_bad _ _ _ w h).mono fun e w' ⟨he, hg⟩ => he ▸ ⟨none, 0, rfl, hg, Lie.nil _ _⟩

set_option maxHeartbeats 4000000 in
set_option maxRecDepth 100000 in
theorem says_any (rto rfr ato afr pto pfr : Ad) (rtid rseq atid aseq am paid : Int) (A : Nat → Addr) (W : World) (hs : Sent W.heap.size W A) (hm : 0 ≤ am ∧ am < 18446744073709551616) :
    Calls Tryd.prog 3 #[barV rto rfr rtid rseq, ackV ato afr atid aseq am, pollV paid pto pfr] W fun e w' => e = .returned (.bool true) ∧ Far W.heap.size W w' := by
  obtain ⟨rt0, rt1, rt2, rt3, rt4, rt5⟩ := rto
  obtain ⟨rf0, rf1, rf2, rf3, rf4, rf5⟩ := rfr
  obtain ⟨at0, at1, at2, at3, at4, at5⟩ := ato
  obtain ⟨af0, af1, af2, af3, af4, af5⟩ := afr
  obtain ⟨pt0, pt1, pt2, pt3, pt4, pt5⟩ := pto
  obtain ⟨pf0, pf1, pf2, pf3, pf4, pf5⟩ := pfr
  obtain ⟨X1, hX1⟩ : ∃ X, X = okX (okB rtid rseq) (asksL 132 ⟨rt0, rt1, rt2, rt3, rt4, rt5⟩ ⟨rf0, rf1, rf2, rf3, rf4, rf5⟩ rtid rseq) := ⟨_, rfl⟩
  obtain ⟨X2, hX2⟩ : ∃ X, X = okX (okB atid aseq) (ackL ⟨at0, at1, at2, at3, at4, at5⟩ ⟨af0, af1, af2, af3, af4, af5⟩ atid aseq am) := ⟨_, rfl⟩
  obtain ⟨X3, hX3⟩ : ∃ X, X = okX (okP paid) (pollL paid ⟨pt0, pt1, pt2, pt3, pt4, pt5⟩ ⟨pf0, pf1, pf2, pf3, pf4, pf5⟩) := ⟨_, rfl⟩
  obtain ⟨k1, hk1⟩ : ∃ k, k = okK (okB rtid rseq) := ⟨_, rfl⟩
  obtain ⟨k2, hk2⟩ : ∃ k, k = okK (okB atid aseq) := ⟨_, rfl⟩
  obtain ⟨k3, hk3⟩ : ∃ k, k = okK (okP paid) := ⟨_, rfl⟩
  have HC1 := Lib.hid (fun w k => bar_wrote _ A W w hs (Nat.le_refl _) k ⟨rt0, rt1, rt2, rt3, rt4, rt5⟩ ⟨rf0, rf1, rf2, rf3, rf4, rf5⟩ rtid rseq)
  have HC2 := Lib.hid (fun w k => ack_wrote _ A W w hs (Nat.le_refl _) k ⟨at0, at1, at2, at3, at4, at5⟩ ⟨af0, af1, af2, af3, af4, af5⟩ atid aseq am hm)
  have HC3 := Lib.hid (fun w k => poll_wrote _ A W w hs (Nat.le_refl _) k paid ⟨pt0, pt1, pt2, pt3, pt4, pt5⟩ ⟨pf0, pf1, pf2, pf3, pf4, pf5⟩)
  have HR1 := Lib.hid (fun w => rbar_wrote w ⟨rt0, rt1, rt2, rt3, rt4, rt5⟩ ⟨rf0, rf1, rf2, rf3, rf4, rf5⟩ rtid rseq)
  have HR2 := Lib.hid (fun w => rack_wrote w ⟨at0, at1, at2, at3, at4, at5⟩ ⟨af0, af1, af2, af3, af4, af5⟩ atid aseq am hm)
  have HR3 := Lib.hid (fun w => rpoll_wrote w paid ⟨pt0, pt1, pt2, pt3, pt4, pt5⟩ ⟨pf0, pf1, pf2, pf3, pf4, pf5⟩)
  rw [← hX1, ← hk1] at HC1 HR1
  rw [← hX2, ← hk2] at HC2 HR2
  rw [← hX3, ← hk3] at HC3 HR3
  have HLE := Lib.hid (show X1.length ≤ 100000 ∧ X2.length ≤ 100000 ∧ X3.length ≤ 100000 from ⟨hX1 ▸ okX_le (by simp [asksL, adL, twoL]), hX2 ▸ okX_le (by simp [ackL, asksL, adL, twoL, mapL_len]), hX3 ▸ okX_le (by simp [pollL, adL, twoL])⟩)
  have HKE := Lib.hid (show k1 < 15 ∧ k2 < 15 ∧ k3 < 15 from ⟨hk1 ▸ okK_lt _, hk2 ▸ okK_lt _, hk3 ▸ okK_lt _⟩)
  have HIS : Hid (∀ w, Gro none W w → ∀ i, i < 15 → Calls Tryd.prog 16 #[errV A i, .int .i64 (codeOf i)] w fun e w' => e = .returned (.bool true) ∧ Gro none w w') := fun w k i hi => (is_any W.heap.size w A (hs.far fun i hi => k.block i hi (by simp)) k.size i hi (codeOf i)).mono fun e w' ⟨he, hg⟩ => ⟨by rw [he, decide_eq_true rfl], hg⟩
  clear hX1 hX2 hX3 hk1 hk2 hk3 hs hm
  have hwb : ∀ w', Gro none (((W.alloc (.cells #[.int .u8 rt0, .int .u8 rt1, .int .u8 rt2, .int .u8 rt3, .int .u8 rt4, .int .u8 rt5, .int .u8 rf0, .int .u8 rf1, .int .u8 rf2, .int .u8 rf3, .int .u8 rf4, .int .u8 rf5, .int .i64 rtid, .int .i64 rseq] 25)).alloc (.cells #[.int .u8 at0, .int .u8 at1, .int .u8 at2, .int .u8 at3, .int .u8 at4, .int .u8 at5, .int .u8 af0, .int .u8 af1, .int .u8 af2, .int .u8 af3, .int .u8 af4, .int .u8 af5, .int .i64 atid, .int .i64 aseq, .int .u64 am] 28)).alloc (.cells #[.int .i64 paid, .int .u8 pt0, .int .u8 pt1, .int .u8 pt2, .int .u8 pt3, .int .u8 pt4, .int .u8 pt5, .int .u8 pf0, .int .u8 pf1, .int .u8 pf2, .int .u8 pf3, .int .u8 pf4, .int .u8 pf5] 30)) w' → Gro none W w' := fun w' k => ((((Gro.refl _ _).alloc _).alloc _).alloc _).trans k
  have hb0 : ∀ w', Gro none (((W.alloc (.cells #[.int .u8 rt0, .int .u8 rt1, .int .u8 rt2, .int .u8 rt3, .int .u8 rt4, .int .u8 rt5, .int .u8 rf0, .int .u8 rf1, .int .u8 rf2, .int .u8 rf3, .int .u8 rf4, .int .u8 rf5, .int .i64 rtid, .int .i64 rseq] 25)).alloc (.cells #[.int .u8 at0, .int .u8 at1, .int .u8 at2, .int .u8 at3, .int .u8 at4, .int .u8 at5, .int .u8 af0, .int .u8 af1, .int .u8 af2, .int .u8 af3, .int .u8 af4, .int .u8 af5, .int .i64 atid, .int .i64 aseq, .int .u64 am] 28)).alloc (.cells #[.int .i64 paid, .int .u8 pt0, .int .u8 pt1, .int .u8 pt2, .int .u8 pt3, .int .u8 pt4, .int .u8 pt5, .int .u8 pf0, .int .u8 pf1, .int .u8 pf2, .int .u8 pf3, .int .u8 pf4, .int .u8 pf5] 30)) w' → w'.heap[W.heap.size]? = some (.cells #[.int .u8 rt0, .int .u8 rt1, .int .u8 rt2, .int .u8 rt3, .int .u8 rt4, .int .u8 rt5, .int .u8 rf0, .int .u8 rf1, .int .u8 rf2, .int .u8 rf3, .int .u8 rf4, .int .u8 rf5, .int .i64 rtid, .int .i64 rseq] 25 (0, 0)) := fun w' k =>
    (k.block W.heap.size (by simp; omega) (by simp)).trans ((Below.heap_alloc _ _ _ (by simp; omega)).trans ((Below.heap_alloc _ _ _ (by simp)).trans (heap_alloc_new W _)))
  have hb1 : ∀ w', Gro none (((W.alloc (.cells #[.int .u8 rt0, .int .u8 rt1, .int .u8 rt2, .int .u8 rt3, .int .u8 rt4, .int .u8 rt5, .int .u8 rf0, .int .u8 rf1, .int .u8 rf2, .int .u8 rf3, .int .u8 rf4, .int .u8 rf5, .int .i64 rtid, .int .i64 rseq] 25)).alloc (.cells #[.int .u8 at0, .int .u8 at1, .int .u8 at2, .int .u8 at3, .int .u8 at4, .int .u8 at5, .int .u8 af0, .int .u8 af1, .int .u8 af2, .int .u8 af3, .int .u8 af4, .int .u8 af5, .int .i64 atid, .int .i64 aseq, .int .u64 am] 28)).alloc (.cells #[.int .i64 paid, .int .u8 pt0, .int .u8 pt1, .int .u8 pt2, .int .u8 pt3, .int .u8 pt4, .int .u8 pt5, .int .u8 pf0, .int .u8 pf1, .int .u8 pf2, .int .u8 pf3, .int .u8 pf4, .int .u8 pf5] 30)) w' → w'.heap[W.heap.size + 1]? = some (.cells #[.int .u8 at0, .int .u8 at1, .int .u8 at2, .int .u8 at3, .int .u8 at4, .int .u8 at5, .int .u8 af0, .int .u8 af1, .int .u8 af2, .int .u8 af3, .int .u8 af4, .int .u8 af5, .int .i64 atid, .int .i64 aseq, .int .u64 am] 28 (0, 0)) := fun w' k => by
    have h := heap_alloc_new (W.alloc (.cells #[.int .u8 rt0, .int .u8 rt1, .int .u8 rt2, .int .u8 rt3, .int .u8 rt4, .int .u8 rt5, .int .u8 rf0, .int .u8 rf1, .int .u8 rf2, .int .u8 rf3, .int .u8 rf4, .int .u8 rf5, .int .i64 rtid, .int .i64 rseq] 25)) (.cells #[.int .u8 at0, .int .u8 at1, .int .u8 at2, .int .u8 at3, .int .u8 at4, .int .u8 at5, .int .u8 af0, .int .u8 af1, .int .u8 af2, .int .u8 af3, .int .u8 af4, .int .u8 af5, .int .i64 atid, .int .i64 aseq, .int .u64 am] 28)
    simp only [show ∀ (w : World) (o : Obj), (w.alloc o).heap.size = w.heap.size + 1 from fun w o => by simp] at h
    exact (k.block (W.heap.size + 1) (by simp) (by simp)).trans ((Below.heap_alloc _ _ _ (by simp)).trans h)
  have hb2 : ∀ w', Gro none (((W.alloc (.cells #[.int .u8 rt0, .int .u8 rt1, .int .u8 rt2, .int .u8 rt3, .int .u8 rt4, .int .u8 rt5, .int .u8 rf0, .int .u8 rf1, .int .u8 rf2, .int .u8 rf3, .int .u8 rf4, .int .u8 rf5, .int .i64 rtid, .int .i64 rseq] 25)).alloc (.cells #[.int .u8 at0, .int .u8 at1, .int .u8 at2, .int .u8 at3, .int .u8 at4, .int .u8 at5, .int .u8 af0, .int .u8 af1, .int .u8 af2, .int .u8 af3, .int .u8 af4, .int .u8 af5, .int .i64 atid, .int .i64 aseq, .int .u64 am] 28)).alloc (.cells #[.int .i64 paid, .int .u8 pt0, .int .u8 pt1, .int .u8 pt2, .int .u8 pt3, .int .u8 pt4, .int .u8 pt5, .int .u8 pf0, .int .u8 pf1, .int .u8 pf2, .int .u8 pf3, .int .u8 pf4, .int .u8 pf5] 30)) w' → w'.heap[W.heap.size + 1 + 1]? = some (.cells #[.int .i64 paid, .int .u8 pt0, .int .u8 pt1, .int .u8 pt2, .int .u8 pt3, .int .u8 pt4, .int .u8 pt5, .int .u8 pf0, .int .u8 pf1, .int .u8 pf2, .int .u8 pf3, .int .u8 pf4, .int .u8 pf5] 30 (0, 0)) := fun w' k => by
    have h := heap_alloc_new ((W.alloc (.cells #[.int .u8 rt0, .int .u8 rt1, .int .u8 rt2, .int .u8 rt3, .int .u8 rt4, .int .u8 rt5, .int .u8 rf0, .int .u8 rf1, .int .u8 rf2, .int .u8 rf3, .int .u8 rf4, .int .u8 rf5, .int .i64 rtid, .int .i64 rseq] 25)).alloc (.cells #[.int .u8 at0, .int .u8 at1, .int .u8 at2, .int .u8 at3, .int .u8 at4, .int .u8 at5, .int .u8 af0, .int .u8 af1, .int .u8 af2, .int .u8 af3, .int .u8 af4, .int .u8 af5, .int .i64 atid, .int .i64 aseq, .int .u64 am] 28)) (.cells #[.int .i64 paid, .int .u8 pt0, .int .u8 pt1, .int .u8 pt2, .int .u8 pt3, .int .u8 pt4, .int .u8 pt5, .int .u8 pf0, .int .u8 pf1, .int .u8 pf2, .int .u8 pf3, .int .u8 pf4, .int .u8 pf5] 30)
    simp only [show ∀ (w : World) (o : Obj), (w.alloc o).heap.size = w.heap.size + 1 from fun w o => by simp] at h
    exact (k.block (W.heap.size + 1 + 1) (by simp) (by simp)).trans h
  have HWB := Lib.hid hwb
  have HB0 := Lib.hid hb0
  have HB1 := Lib.hid hb1
  have HB2 := Lib.hid hb2
  clear hwb hb0 hb1 hb2
  unfold barV at *
  unfold ackV at *
  unfold pollV at *
  simp only at HC1 HC2 HC3 HR1 HR2 HR3 ⊢
  go_enter Tryd.func3, Tryd.ntmps3
  go_wp2_with fail
  generalize (((W.alloc (.cells #[.int .u8 rt0, .int .u8 rt1, .int .u8 rt2, .int .u8 rt3, .int .u8 rt4, .int .u8 rt5, .int .u8 rf0, .int .u8 rf1, .int .u8 rf2, .int .u8 rf3, .int .u8 rf4, .int .u8 rf5, .int .i64 rtid, .int .i64 rseq] 25)).alloc (.cells #[.int .u8 at0, .int .u8 at1, .int .u8 at2, .int .u8 at3, .int .u8 at4, .int .u8 at5, .int .u8 af0, .int .u8 af1, .int .u8 af2, .int .u8 af3, .int .u8 af4, .int .u8 af5, .int .i64 atid, .int .i64 aseq, .int .u64 am] 28)).alloc (.cells #[.int .i64 paid, .int .u8 pt0, .int .u8 pt1, .int .u8 pt2, .int .u8 pt3, .int .u8 pt4, .int .u8 pt5, .int .u8 pf0, .int .u8 pf1, .int .u8 pf2, .int .u8 pf3, .int .u8 pf4, .int .u8 pf5] 30)) = wb at *
  refine (first_any wb).mono ?_
  rintro e w1 ⟨rfl, hg⟩
  have HW := Lib.hid hg
  clear hg
  have z0 := cell_of_row w1 (W.heap.size) 0 _ _ _ (HB0.out _ HW.out)
  have z1 := cell_of_row w1 (W.heap.size) 1 _ _ _ (HB0.out _ HW.out)
  have z2 := cell_of_row w1 (W.heap.size) 2 _ _ _ (HB0.out _ HW.out)
  have z3 := cell_of_row w1 (W.heap.size) 3 _ _ _ (HB0.out _ HW.out)
  have z4 := cell_of_row w1 (W.heap.size) 4 _ _ _ (HB0.out _ HW.out)
  have z5 := cell_of_row w1 (W.heap.size) 5 _ _ _ (HB0.out _ HW.out)
  have z6 := cell_of_row w1 (W.heap.size) 6 _ _ _ (HB0.out _ HW.out)
  have z7 := cell_of_row w1 (W.heap.size) 7 _ _ _ (HB0.out _ HW.out)
  have z8 := cell_of_row w1 (W.heap.size) 8 _ _ _ (HB0.out _ HW.out)
  have z9 := cell_of_row w1 (W.heap.size) 9 _ _ _ (HB0.out _ HW.out)
  have z10 := cell_of_row w1 (W.heap.size) 10 _ _ _ (HB0.out _ HW.out)
  have z11 := cell_of_row w1 (W.heap.size) 11 _ _ _ (HB0.out _ HW.out)
  have z12 := cell_of_row w1 (W.heap.size) 12 _ _ _ (HB0.out _ HW.out)
  have z13 := cell_of_row w1 (W.heap.size) 13 _ _ _ (HB0.out _ HW.out)
  simp only [List.getElem?_toArray, List.getElem?_cons_zero, List.getElem?_cons_succ] at z0 z1 z2 z3 z4 z5 z6 z7 z8 z9 z10 z11 z12 z13
  go_wp2_with fail
  refine (HC1.out _ (HWB.out _ HW.out)).mono ?_
  rintro e w2 ⟨cp1, cc1, rfl, hg, hlC1⟩
  have HW := Lib.hid (HW.out.trans hg)
  have HLC1 := Lib.hid hlC1
  clear hg hlC1 z0 z1 z2 z3 z4 z5 z6 z7 z8 z9 z10 z11 z12 z13
  have z0 := cell_of_row w2 (W.heap.size + 1) 0 _ _ _ (HB1.out _ HW.out)
  have z1 := cell_of_row w2 (W.heap.size + 1) 1 _ _ _ (HB1.out _ HW.out)
  have z2 := cell_of_row w2 (W.heap.size + 1) 2 _ _ _ (HB1.out _ HW.out)
  have z3 := cell_of_row w2 (W.heap.size + 1) 3 _ _ _ (HB1.out _ HW.out)
  have z4 := cell_of_row w2 (W.heap.size + 1) 4 _ _ _ (HB1.out _ HW.out)
  have z5 := cell_of_row w2 (W.heap.size + 1) 5 _ _ _ (HB1.out _ HW.out)
  have z6 := cell_of_row w2 (W.heap.size + 1) 6 _ _ _ (HB1.out _ HW.out)
  have z7 := cell_of_row w2 (W.heap.size + 1) 7 _ _ _ (HB1.out _ HW.out)
  have z8 := cell_of_row w2 (W.heap.size + 1) 8 _ _ _ (HB1.out _ HW.out)
  have z9 := cell_of_row w2 (W.heap.size + 1) 9 _ _ _ (HB1.out _ HW.out)
  have z10 := cell_of_row w2 (W.heap.size + 1) 10 _ _ _ (HB1.out _ HW.out)
  have z11 := cell_of_row w2 (W.heap.size + 1) 11 _ _ _ (HB1.out _ HW.out)
  have z12 := cell_of_row w2 (W.heap.size + 1) 12 _ _ _ (HB1.out _ HW.out)
  have z13 := cell_of_row w2 (W.heap.size + 1) 13 _ _ _ (HB1.out _ HW.out)
  have z14 := cell_of_row w2 (W.heap.size + 1) 14 _ _ _ (HB1.out _ HW.out)
  simp only [List.getElem?_toArray, List.getElem?_cons_zero, List.getElem?_cons_succ] at z0 z1 z2 z3 z4 z5 z6 z7 z8 z9 z10 z11 z12 z13 z14
  go_wp2_with fail
  refine (HC2.out _ (HWB.out _ HW.out)).mono ?_
  rintro e w3 ⟨cp2, cc2, rfl, hg, hlC2⟩
  have HW := Lib.hid (HW.out.trans hg)
  have HLC1 := Lib.hid (HLC1.out.gro hg (by simp))
  have HLC2 := Lib.hid hlC2
  clear hg hlC2 z0 z1 z2 z3 z4 z5 z6 z7 z8 z9 z10 z11 z12 z13 z14
  have z0 := cell_of_row w3 (W.heap.size + 1 + 1) 0 _ _ _ (HB2.out _ HW.out)
  have z1 := cell_of_row w3 (W.heap.size + 1 + 1) 1 _ _ _ (HB2.out _ HW.out)
  have z2 := cell_of_row w3 (W.heap.size + 1 + 1) 2 _ _ _ (HB2.out _ HW.out)
  have z3 := cell_of_row w3 (W.heap.size + 1 + 1) 3 _ _ _ (HB2.out _ HW.out)
  have z4 := cell_of_row w3 (W.heap.size + 1 + 1) 4 _ _ _ (HB2.out _ HW.out)
  have z5 := cell_of_row w3 (W.heap.size + 1 + 1) 5 _ _ _ (HB2.out _ HW.out)
  have z6 := cell_of_row w3 (W.heap.size + 1 + 1) 6 _ _ _ (HB2.out _ HW.out)
  have z7 := cell_of_row w3 (W.heap.size + 1 + 1) 7 _ _ _ (HB2.out _ HW.out)
  have z8 := cell_of_row w3 (W.heap.size + 1 + 1) 8 _ _ _ (HB2.out _ HW.out)
  have z9 := cell_of_row w3 (W.heap.size + 1 + 1) 9 _ _ _ (HB2.out _ HW.out)
  have z10 := cell_of_row w3 (W.heap.size + 1 + 1) 10 _ _ _ (HB2.out _ HW.out)
  have z11 := cell_of_row w3 (W.heap.size + 1 + 1) 11 _ _ _ (HB2.out _ HW.out)
  have z12 := cell_of_row w3 (W.heap.size + 1 + 1) 12 _ _ _ (HB2.out _ HW.out)
  simp only [List.getElem?_toArray, List.getElem?_cons_zero, List.getElem?_cons_succ] at z0 z1 z2 z3 z4 z5 z6 z7 z8 z9 z10 z11 z12
  go_wp2_with fail
  refine (HC3.out _ (HWB.out _ HW.out)).mono ?_
  rintro e w4 ⟨cp3, cc3, rfl, hg, hlC3⟩
  have HW := Lib.hid (HW.out.trans hg)
  have HLC1 := Lib.hid (HLC1.out.gro hg (by simp))
  have HLC2 := Lib.hid (HLC2.out.gro hg (by simp))
  have HLC3 := Lib.hid hlC3
  clear hg hlC3 z0 z1 z2 z3 z4 z5 z6 z7 z8 z9 z10 z11 z12
  have z0 := cell_of_row w4 (W.heap.size) 0 _ _ _ (HB0.out _ HW.out)
  have z1 := cell_of_row w4 (W.heap.size) 1 _ _ _ (HB0.out _ HW.out)
  have z2 := cell_of_row w4 (W.heap.size) 2 _ _ _ (HB0.out _ HW.out)
  have z3 := cell_of_row w4 (W.heap.size) 3 _ _ _ (HB0.out _ HW.out)
  have z4 := cell_of_row w4 (W.heap.size) 4 _ _ _ (HB0.out _ HW.out)
  have z5 := cell_of_row w4 (W.heap.size) 5 _ _ _ (HB0.out _ HW.out)
  have z6 := cell_of_row w4 (W.heap.size) 6 _ _ _ (HB0.out _ HW.out)
  have z7 := cell_of_row w4 (W.heap.size) 7 _ _ _ (HB0.out _ HW.out)
  have z8 := cell_of_row w4 (W.heap.size) 8 _ _ _ (HB0.out _ HW.out)
  have z9 := cell_of_row w4 (W.heap.size) 9 _ _ _ (HB0.out _ HW.out)
  have z10 := cell_of_row w4 (W.heap.size) 10 _ _ _ (HB0.out _ HW.out)
  have z11 := cell_of_row w4 (W.heap.size) 11 _ _ _ (HB0.out _ HW.out)
  have z12 := cell_of_row w4 (W.heap.size) 12 _ _ _ (HB0.out _ HW.out)
  have z13 := cell_of_row w4 (W.heap.size) 13 _ _ _ (HB0.out _ HW.out)
  simp only [List.getElem?_toArray, List.getElem?_cons_zero, List.getElem?_cons_succ] at z0 z1 z2 z3 z4 z5 z6 z7 z8 z9 z10 z11 z12 z13
  go_wp2_with fail
  refine (HR1.out _).mono ?_
  rintro e w5 ⟨rp1, rc1, rfl, hg, hlR1⟩
  have HW := Lib.hid (HW.out.trans hg)
  have HLC1 := Lib.hid (HLC1.out.gro hg (by simp))
  have HLC2 := Lib.hid (HLC2.out.gro hg (by simp))
  have HLC3 := Lib.hid (HLC3.out.gro hg (by simp))
  have HLR1 := Lib.hid hlR1
  clear hg hlR1 z0 z1 z2 z3 z4 z5 z6 z7 z8 z9 z10 z11 z12 z13
  have z0 := cell_of_row w5 (W.heap.size + 1) 0 _ _ _ (HB1.out _ HW.out)
  have z1 := cell_of_row w5 (W.heap.size + 1) 1 _ _ _ (HB1.out _ HW.out)
  have z2 := cell_of_row w5 (W.heap.size + 1) 2 _ _ _ (HB1.out _ HW.out)
  have z3 := cell_of_row w5 (W.heap.size + 1) 3 _ _ _ (HB1.out _ HW.out)
  have z4 := cell_of_row w5 (W.heap.size + 1) 4 _ _ _ (HB1.out _ HW.out)
  have z5 := cell_of_row w5 (W.heap.size + 1) 5 _ _ _ (HB1.out _ HW.out)
  have z6 := cell_of_row w5 (W.heap.size + 1) 6 _ _ _ (HB1.out _ HW.out)
  have z7 := cell_of_row w5 (W.heap.size + 1) 7 _ _ _ (HB1.out _ HW.out)
  have z8 := cell_of_row w5 (W.heap.size + 1) 8 _ _ _ (HB1.out _ HW.out)
  have z9 := cell_of_row w5 (W.heap.size + 1) 9 _ _ _ (HB1.out _ HW.out)
  have z10 := cell_of_row w5 (W.heap.size + 1) 10 _ _ _ (HB1.out _ HW.out)
  have z11 := cell_of_row w5 (W.heap.size + 1) 11 _ _ _ (HB1.out _ HW.out)
  have z12 := cell_of_row w5 (W.heap.size + 1) 12 _ _ _ (HB1.out _ HW.out)
  have z13 := cell_of_row w5 (W.heap.size + 1) 13 _ _ _ (HB1.out _ HW.out)
  have z14 := cell_of_row w5 (W.heap.size + 1) 14 _ _ _ (HB1.out _ HW.out)
  simp only [List.getElem?_toArray, List.getElem?_cons_zero, List.getElem?_cons_succ] at z0 z1 z2 z3 z4 z5 z6 z7 z8 z9 z10 z11 z12 z13 z14
  go_wp2_with fail
  refine (HR2.out _).mono ?_
  rintro e w6 ⟨rp2, rc2, rfl, hg, hlR2⟩
  have HW := Lib.hid (HW.out.trans hg)
  have HLC1 := Lib.hid (HLC1.out.gro hg (by simp))
  have HLC2 := Lib.hid (HLC2.out.gro hg (by simp))
  have HLC3 := Lib.hid (HLC3.out.gro hg (by simp))
  have HLR1 := Lib.hid (HLR1.out.gro hg (by simp))
  have HLR2 := Lib.hid hlR2
  clear hg hlR2 z0 z1 z2 z3 z4 z5 z6 z7 z8 z9 z10 z11 z12 z13 z14
  have z0 := cell_of_row w6 (W.heap.size + 1 + 1) 0 _ _ _ (HB2.out _ HW.out)
  have z1 := cell_of_row w6 (W.heap.size + 1 + 1) 1 _ _ _ (HB2.out _ HW.out)
  have z2 := cell_of_row w6 (W.heap.size + 1 + 1) 2 _ _ _ (HB2.out _ HW.out)
  have z3 := cell_of_row w6 (W.heap.size + 1 + 1) 3 _ _ _ (HB2.out _ HW.out)
  have z4 := cell_of_row w6 (W.heap.size + 1 + 1) 4 _ _ _ (HB2.out _ HW.out)
  have z5 := cell_of_row w6 (W.heap.size + 1 + 1) 5 _ _ _ (HB2.out _ HW.out)
  have z6 := cell_of_row w6 (W.heap.size + 1 + 1) 6 _ _ _ (HB2.out _ HW.out)
  have z7 := cell_of_row w6 (W.heap.size + 1 + 1) 7 _ _ _ (HB2.out _ HW.out)
  have z8 := cell_of_row w6 (W.heap.size + 1 + 1) 8 _ _ _ (HB2.out _ HW.out)
  have z9 := cell_of_row w6 (W.heap.size + 1 + 1) 9 _ _ _ (HB2.out _ HW.out)
  have z10 := cell_of_row w6 (W.heap.size + 1 + 1) 10 _ _ _ (HB2.out _ HW.out)
  have z11 := cell_of_row w6 (W.heap.size + 1 + 1) 11 _ _ _ (HB2.out _ HW.out)
  have z12 := cell_of_row w6 (W.heap.size + 1 + 1) 12 _ _ _ (HB2.out _ HW.out)
  simp only [List.getElem?_toArray, List.getElem?_cons_zero, List.getElem?_cons_succ] at z0 z1 z2 z3 z4 z5 z6 z7 z8 z9 z10 z11 z12
  go_wp2_with fail
  refine (HR3.out _).mono ?_
  rintro e w7 ⟨rp3, rc3, rfl, hg, hlR3⟩
  have HW := Lib.hid (HW.out.trans hg)
  have HLC1 := Lib.hid (HLC1.out.gro hg (by simp))
  have HLC2 := Lib.hid (HLC2.out.gro hg (by simp))
  have HLC3 := Lib.hid (HLC3.out.gro hg (by simp))
  have HLR1 := Lib.hid (HLR1.out.gro hg (by simp))
  have HLR2 := Lib.hid (HLR2.out.gro hg (by simp))
  have HLR3 := Lib.hid hlR3
  clear hg hlR3 z0 z1 z2 z3 z4 z5 z6 z7 z8 z9 z10 z11 z12
  have HS1 := Lib.hid (fun w' (k : Gro none w7 w') => HIS.out w' (HWB.out _ (HW.out.trans k)) k1 HKE.out.1)
  have HS2 := Lib.hid (fun w' (k : Gro none w7 w') => HIS.out w' (HWB.out _ (HW.out.trans k)) k2 HKE.out.2.1)
  have HS3 := Lib.hid (fun w' (k : Gro none w7 w') => HIS.out w' (HWB.out _ (HW.out.trans k)) k3 HKE.out.2.2)
  have HT1 := Lib.hid (fun w' (k : Gro none w7 w') => same_self cp1 rp1 cc1 rc1 X1 w' (HLC1.out.gro k (by simp)) (HLR1.out.gro k (by simp)) HLE.out.1)
  have HT2 := Lib.hid (fun w' (k : Gro none w7 w') => same_self cp2 rp2 cc2 rc2 X2 w' (HLC2.out.gro k (by simp)) (HLR2.out.gro k (by simp)) HLE.out.2.1)
  have HT3 := Lib.hid (fun w' (k : Gro none w7 w') => same_self cp3 rp3 cc3 rc3 X3 w' (HLC3.out.gro k (by simp)) (HLR3.out.gro k (by simp)) HLE.out.2.2)
  generalize codeOf k1 = x1 at *
  generalize codeOf k2 = x2 at *
  generalize codeOf k3 = x3 at *
  generalize errV A k1 = u1 at *
  generalize errV A k2 = u2 at *
  generalize errV A k3 = u3 at *
  generalize X1.length = n1 at *
  generalize X2.length = n2 at *
  generalize X3.length = n3 at *
  have HG := Lib.hid (Gro.refl none w7)
  go_wp2_with fail
  refine (HT1.out _ HG.out).mono ?_
  rintro e v0 ⟨rfl, hg⟩
  have HG := Lib.hid (HG.out.trans hg)
  clear hg
  go_wp2_with fail
  refine (HS1.out _ HG.out).mono ?_
  rintro e v1 ⟨rfl, hg⟩
  have HG := Lib.hid (HG.out.trans hg)
  clear hg
  go_wp2_with fail
  refine (HT2.out _ HG.out).mono ?_
  rintro e v2 ⟨rfl, hg⟩
  have HG := Lib.hid (HG.out.trans hg)
  clear hg
  go_wp2_with fail
  refine (HS2.out _ HG.out).mono ?_
  rintro e v3 ⟨rfl, hg⟩
  have HG := Lib.hid (HG.out.trans hg)
  clear hg
  go_wp2_with fail
  refine (HT3.out _ HG.out).mono ?_
  rintro e v4 ⟨rfl, hg⟩
  have HG := Lib.hid (HG.out.trans hg)
  clear hg
  go_wp2_with fail
  refine (HS3.out _ HG.out).mono ?_
  rintro e v5 ⟨rfl, hg⟩
  have HG := Lib.hid (HG.out.trans hg)
  clear hg
  go_wp2_with fail
  go_ret
  exact ⟨rfl, (Far.refl _ _).gro (HWB.out _ (HW.out.trans HG.out)) (Nat.le_refl _) (fun _ e => by cases e)⟩
end Go.Proofs.YtadcpoglkmklhaaDoor
