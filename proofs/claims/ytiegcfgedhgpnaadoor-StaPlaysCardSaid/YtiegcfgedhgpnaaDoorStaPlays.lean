/-
  WHOEVER COMES AND GOES: the code's table and the document's answer the same (muezzinlaw22.StaPlays). Conditions: the things that are told lie where the slice says; the sentinels lie.
-/
import Derived.Test.YtiegcfgedhgpnaaDoorStaBoth
import Derived.Test.YtiegcfgedhgpnaaDoorFrame
import Derived.Deep.CutRange
namespace Go.Proofs.YtiegcfgedhgpnaaDoor
open Go.RowKit

/-- What stays true from one thing to the next. -/
structure PI (W1 : World) (S bt bx : Nat) (T : Nat → Sone) (N : Int) (w : World) : Prop where
  far : Far S W1 w
  t : Tab bt w T
  d : DTab bx w T
  ep : EpN T N
theorem PI.gro {W1 w w' : World} {S bt bx : Nat} {T : Nat → Sone} {N : Int} (h : PI W1 S bt bx T N w) (k : Gro none w w') (hS : S ≤ W1.heap.size) : PI W1 S bt bx T N w' :=
  ⟨h.far.gro k (Nat.le_trans hS h.far.size) (fun _ e => by cases e), h.t.gro k (by simp), h.d.gro k (by simp), h.ep⟩
theorem Far.trans {B : Nat} {a b c : World} (h : Far B a b) (k : Far B b c) : Far B a c := ⟨k.os.trans h.os, k.output.trans h.output, Nat.le_trans h.size k.size, fun i hi => (k.block i hi).trans (h.block i hi)⟩
theorem Far.low {B B' : Nat} {a b : World} (h : Far B a b) (hB : B' ≤ B) : Far B' a b := ⟨h.os, h.output, h.size, fun i hi => h.block i (by omega)⟩
/-- Within the region that deletes: what has come up so far. -/
def RD (W1 : World) (S bt bx bc : Nat) (T T' : Nat → Sone) (l : Array Bool) (w : World) : Prop :=
  Far S W1 w ∧ Tab bt w (cond (l.getD 6 false) T' T) ∧ DTab bx w (cond (l.getD 13 false) T' T) ∧ Tab bc w T
theorem RD.un {W1 : World} {S bt bx bc : Nat} {T T' : Nat → Sone} {l : Array Bool} {w : World} (b1 b2 : Bool) (e1 : l.getD 6 false = b1) (e2 : l.getD 13 false = b2) (h : RD W1 S bt bx bc T T' l w) : Far S W1 w ∧ Tab bt w (cond b1 T' T) ∧ DTab bx w (cond b2 T' T) ∧ Tab bc w T := by
  unfold RD at h
  rwa [e1, e2] at h
theorem RD.mk {W1 : World} {S bt bx bc : Nat} {T T' : Nat → Sone} {l : Array Bool} {w : World} (b1 b2 : Bool) (e1 : l.getD 6 false = b1) (e2 : l.getD 13 false = b2) (h : Far S W1 w ∧ Tab bt w (cond b1 T' T) ∧ DTab bx w (cond b2 T' T) ∧ Tab bc w T) : RD W1 S bt bx bc T T' l w := by
  unfold RD
  rwa [e1, e2]
theorem RD.on {W1 : World} {S bt bx bc : Nat} {T T' : Nat → Sone} {i : Nat} (h1 : i ≠ 6) (h2 : i ≠ 13) (l : Array Bool) (w : World) : RD W1 S bt bx bc T T' (l.setIfInBounds i true) w ↔ RD W1 S bt bx bc T T' l w := by
  unfold RD
  rw [getD_ne h1, getD_ne h2]
theorem addr_run (w : World) : (Instr.alloc 25 true (.tuple #[])).run Tryd.prog w = .ok (.pointer (some ⟨w.heap.size, 0, none⟩)) (w.alloc (.cells #[.int .u8 0, .int .u8 0, .int .u8 0, .int .u8 0, .int .u8 0, .int .u8 0] 25)) := by go_simp

set_option maxHeartbeats 20000000 in
set_option maxRecDepth 100000 in
theorem plays_any (A : Nat → Addr) (pa : Option Addr) (len cap : Nat) (D : Nat → Int × Int × Ad) (x : Ad) (W : World) (hs : Sent W.heap.size W A) (hlen : len ≤ 9223372036854775807)
    (hc : ∀ k, k < len → ∃ lb off, pa = some ⟨lb, off, none⟩ ∧ W.cell? ⟨lb, off + k * 8, none⟩ = some (.int .i64 (D k).1) ∧ W.cell? ⟨lb, off + k * 8 + 1, none⟩ = some (.int .i64 (D k).2.1) ∧
      W.rangeAt lb (off + k * 8 + 2) [.int .u8 (D k).2.2.b0, .int .u8 (D k).2.2.b1, .int .u8 (D k).2.2.b2, .int .u8 (D k).2.2.b3, .int .u8 (D k).2.2.b4, .int .u8 (D k).2.2.b5] ∧ 0 ≤ (D k).2.2.b0 ∧ (D k).2.2.b0 < 256) :
    Calls Tryd.prog 5 #[.slice pa len cap, adV x] W fun e w' => e = .returned (.bool true) ∧ Far W.heap.size W w' := by
  have h13 : 14 ≤ W.heap.size := hs.big
  have HS := Lib.hid hs
  have HC := Lib.hid hc
  have hLi : (len : Int) ≤ 9223372036854775807 := by omega
  clear hs hc
  unfold adV
  go_enter Tryd.func5, Tryd.ntmps5
  go_wp2_with fail
  refine (first_any _).mono ?_
  rintro e w1 ⟨rfl, hg1⟩
  have hg0 : Gro none W (W.alloc (.cells #[.int .u8 x.b0, .int .u8 x.b1, .int .u8 x.b2, .int .u8 x.b3, .int .u8 x.b4, .int .u8 x.b5] 25)) := (Gro.refl _ _).alloc _
  have HB := Lib.hid ((hg1.block W.heap.size (by simp) (by simp)).trans (heap_alloc_new W (.cells #[.int .u8 x.b0, .int .u8 x.b1, .int .u8 x.b2, .int .u8 x.b3, .int .u8 x.b4, .int .u8 x.b5] 25)))
  have HF1 := Lib.hid ((Far.refl W.heap.size W).gro (hg0.trans hg1) (Nat.le_refl _) (fun _ e => by cases e))
  have hsz1 : W.heap.size < w1.heap.size := by have := hg1.size; simp at this; omega
  clear hg1 hg0
  by_cases h80 : len ≤ 80
  case neg =>
    have h80' : (80 : Int) < (len : Int) := by omega
    go_wp2_with fail
    go_ret
    exact ⟨rfl, HF1.out⟩
  have i80 : (len : Int) ≤ 80 := by omega
  go_wp2_with (first
    | refine wpList_build_as rfl 30 rfl tZ (tbuild_run _) ?_
    | refine wpList_build_as rfl 54 rfl dZ (dbuild_run _) ?_
    | refine wpList_box_as rfl 30 _ rfl tZ rfl ?_
    | refine wpList_box_as rfl 54 _ rfl dZ rfl ?_)
  have hP : PI w1 (W.heap.size + 1) w1.heap.size (w1.heap.size + 1) (fun _ => Sone.zero) 0 ((w1.alloc (.cells tZ 30)).alloc (.cells dZ 54)) := by
    refine ⟨(Far.refl _ _).gro (((Gro.refl none w1).alloc _).alloc _) hsz1 (fun _ e => by cases e), (ttab_new w1).alloc _, ?_, fun j hj => by simp [Sone.zero]⟩
    have h := dtab_new (w1.alloc (.cells tZ 30))
    simp only [show ∀ (w : World) (o : Obj), (w.alloc o).heap.size = w.heap.size + 1 from fun w o => by simp] at h
    exact h
  have HW := Lib.hid (fun w' (h : Far (W.heap.size + 1) w1 w') => HF1.out.trans (h.low (Nat.le_succ _)))
  have hbtS : W.heap.size + 1 ≤ w1.heap.size := hsz1
  have HBX := Lib.hid (fun w' (h : Far (W.heap.size + 1) w1 w') => (h.block W.heap.size (Nat.lt_succ_self _)).trans HB.out)
  generalize (w1.alloc _).alloc _ = w3 at *
  obtain ⟨bt, hbt⟩ : ∃ bt, bt = w1.heap.size := ⟨_, rfl⟩
  rw [← hbt] at hP hbtS ⊢
  have HBT := Lib.hid hbt
  obtain ⟨S, hS⟩ : ∃ S, S = W.heap.size + 1 := ⟨_, rfl⟩
  rw [← hS] at hP hbtS HW HBX
  have HSS := Lib.hid hS
  have hbtw : S ≤ w1.heap.size := by omega
  clear hbt hS HB HF1 hsz1 h13
  go_loopw [8] (fun i wr => ∃ (k : Nat) (T : Nat → Sone), k ≤ len ∧ i = .int .i64 k ∧ PI w1 S bt (bt + 1) T k wr) (fun i _ => len - (intOf i).toNat)
  case atStart => exact ⟨0, _, Nat.zero_le _, rfl, hP⟩
  case round =>
    clear hP
    obtain ⟨k, T, hk, rfl, hP⟩ := hrel
    by_cases hlt : k < len
    case neg =>
      obtain rfl : k = len := by omega
      go_wp2_with fail
      go_ret
      exact ⟨rfl, HW.out _ hP.far⟩
    obtain ⟨lb, off, rfl, c0, c1, hr, hy0, hy1⟩ := HC.out k hlt
    have hlb := block_lt_of_cell c0
    generalize (D k).1 = kd at *
    generalize (D k).2.1 = ka at *
    generalize (D k).2.2 = y at *
    have HK := Lib.hid (fun w' (h : Far S w1 w') => (And.intro (((HW.out w' h).cell (p := ⟨lb, off + k * 8, none⟩) hlb).trans c0) (And.intro (((HW.out w' h).cell (p := ⟨lb, off + k * 8 + 1, none⟩) hlb).trans c1) (fun j v hv => ((HW.out w' h).cell (p := ⟨lb, off + k * 8 + 2 + j, none⟩) hlb).trans (hr j v hv)))))
    have HY := Lib.hid (And.intro hy0 hy1)
    have hki : (k : Int) < (len : Int) := by omega
    have hk0 : (0 : Int) ≤ (k : Int) := by omega
    clear c0 c1 hr hlb hy0 hy1
    have HCL := Lib.hid (clone_any bt wr T hP.t)
    have HP := Lib.hid hP
    clear hP
    go_wp2_with fail
    refine HCL.out.mono ?_
    rintro e w2 ⟨rfl, hg2, hTc, hbc⟩
    have HAL := Lib.hid (all_any wr.heap.size w2 T hTc)
    have HP2 := Lib.hid (HP.out.gro hg2 hbtw)
    have hbc0 : bt + 1 < wr.heap.size := HP.out.d.lt
    have HTC := Lib.hid hTc
    clear HCL HP hg2 hTc
    generalize wr.heap.size = bc at *
    go_wp2_with fail
    refine HAL.out.mono ?_
    rintro e w4 ⟨v, rfl, hg4, ho⟩
    obtain ⟨p, c, rfl, -⟩ := OwnI.lie ho
    have HP4 := Lib.hid (HP2.out.gro hg4 hbtw)
    have HTC4 := Lib.hid (HTC.out.gro hg4 (by simp))
    obtain ⟨c0, c1, hr⟩ := HK.out _ HP4.out.far
    clear HAL HP2 HTC hg4 ho
    generalize hwas : (allL T 16).length = was at *
    have HWAS := Lib.hid hwas
    clear hwas
    go_upto_if 49 with fail
    go_cut [] from 50 to 94 (fun w => ∃ T', PI w1 S bt (bt + 1) T' ((k : Int) + 1) w ∧ Tab bc w T)
    case first =>
      have HSE := Lib.hid (fun w' (h : Far S w1 w') => (And.intro (HS.out.far (HW.out w' h).block) (HW.out w' h).size))
      by_cases h1 : kd = 1
      · subst h1
        obtain ⟨n, kk, T', hkk, hE', hadd, hdadd⟩ := both_add y HY.out.1 HY.out.2 T (k : Int) HP4.out.ep (by omega)
        have HA1 := Lib.hid (hadd bt w4 A W.heap.size (HSE.out _ HP4.out.far).1 (HSE.out _ HP4.out.far).2 HP4.out.t)
        have HA2 := Lib.hid (fun w' (h : DTab (bt + 1) w' T) => hdadd (bt + 1) w' h)
        have HIS := Lib.hid (fun w' (h : Far S w1 w') => is_any W.heap.size w' A (HSE.out w' h).1 (HSE.out w' h).2 kk hkk (codeOf kk))
        rw [decide_eq_true rfl] at HIS
        have HE' := Lib.hid hE'
        generalize codeOf kk = cd at *
        generalize errV A kk = ev at *
        clear hadd hdadd hE' hkk HC HS HBX HSE
        unfold adV at HA1 HA2
        go_wp2_with (refine wpList_load_mid rfl 25 _ rfl lb (off + k * 8 + 2) rfl _ _ hr Tryd.underlying25 rfl (by kernel_rfl) ?_)
        refine HA1.out.mono ?_
        rintro e w5 ⟨rfl, hg5, hT5⟩
        have hf5 : Far S w1 w5 := HP4.out.far.gro hg5 (Nat.le_trans hbtw HP4.out.far.size) (fun g e => by injection e with e; omega)
        have hd5 := HP4.out.d.gro hg5 (by simp)
        have HTC5 := Lib.hid (HTC4.out.gro hg5 (by simp; omega))
        clear hr
        obtain ⟨-, -, hr⟩ := HK.out _ hf5
        have HF5 := Lib.hid hf5
        have HD5 := Lib.hid hd5
        have HT5 := Lib.hid hT5
        clear hf5 hd5 hg5 hT5 HA1 c0 c1
        go_wp2_with (refine wpList_load_mid rfl 25 _ rfl lb (off + k * 8 + 2) rfl _ _ hr Tryd.underlying25 rfl (by kernel_rfl) ?_)
        refine (HA2.out _ HD5.out).mono ?_
        rintro e w6 ⟨rfl, hg6, hD6⟩
        have HF6 := Lib.hid (HF5.out.gro hg6 (Nat.le_trans hbtw HF5.out.size) (fun g e => by injection e with e; omega))
        have HP6 := Lib.hid (⟨HF6.out, HT5.out.gro hg6 (by simp), hD6, HE'.out⟩ : PI w1 S bt (bt + 1) T' ((k : Int) + 1) w6)
        have HTC6 := Lib.hid (HTC5.out.gro hg6 (by simp; omega))
        clear hg6 hD6 hr HF5 HD5 HT5 HTC5 HA2
        go_wp2_with fail
        refine (HIS.out _ HF6.out).mono ?_
        rintro e w7 ⟨rfl, hg7⟩
        have HP7 := Lib.hid (HP6.out.gro hg7 hbtw)
        have HTC7 := Lib.hid (HTC6.out.gro hg7 (by simp))
        clear hg7 HP6 HTC6 HF6
        go_wp2_with fail
        go_meet
        case rel => exact ⟨T', HP7.out, HTC7.out⟩
      · have hkd : (kd == 1) = false := by simpa using h1
        obtain ⟨kk, T', hkk, hE', hdel, hddel⟩ := both_del ka T (k : Int) HP4.out.ep
        have HA1 := Lib.hid (fun w' (h : Far S w1 w') (ht : Tab bt w' T) => hdel bt w' A W.heap.size (HSE.out _ h).1 (HSE.out _ h).2 ht)
        have HA2 := Lib.hid (fun w' (h : DTab (bt + 1) w' T) => hddel (bt + 1) w' h)
        have HIS := Lib.hid (fun w' (h : Far S w1 w') => is_any W.heap.size w' A (HSE.out w' h).1 (HSE.out w' h).2 kk hkk (codeOf kk))
        rw [decide_eq_true rfl] at HIS
        have HE' := Lib.hid hE'
        generalize codeOf kk = cd at *
        generalize errV A kk = ev at *
        clear hdel hddel hE' hkk HC HS HBX HSE hr
        go_wp2_with fail
        have hb2 : bc ≠ bt := by omega
        have hb3 : bc ≠ bt + 1 := by omega
        have HST : Hid (∀ w', Far S w1 w' → S ≤ w'.heap.size) := fun w' h => Nat.le_trans hbtw h.size
        refine wp_region_R (RD w1 S bt (bt + 1) bc T T') (by kernel_rfl) (RD.mk false false (by kernel_rfl) (by kernel_rfl) ⟨HP4.out.far.gro (Gro.drew (Gro.refl none w4)) (HST.out _ HP4.out.far) (fun _ e => by cases e), HP4.out.t, HP4.out.d, HTC4.out⟩) ?_
        refine takeR (i := 0) (x := 79) (v := .pointer (some ⟨bt, 0, none⟩)) rfl (by kernel_rfl) (by kernel_rfl) (by kernel_rfl) (fun _ _ _ h => h) (RD.on (by decide) (by decide)) (by intro l w h; go_simp) ?_
        simp only [Act.put, List.setIfInBounds_toArray, List.set_cons_zero, List.set_cons_succ]
        refine takeR (i := 1) (x := 80) (v := .slice (some ⟨lb, off, none⟩) len cap) rfl (by kernel_rfl) (by kernel_rfl) (by kernel_rfl) (fun _ _ _ h => h) (RD.on (by decide) (by decide)) (by intro l w h; go_simp) ?_
        simp only [Act.put, List.setIfInBounds_toArray, List.set_cons_zero, List.set_cons_succ]
        refine takeR (i := 2) (x := 81) (v := .int .i64 (k : Int)) rfl (by kernel_rfl) (by kernel_rfl) (by kernel_rfl) (fun _ _ _ h => h) (RD.on (by decide) (by decide)) (by intro l w h; go_simp) ?_
        simp only [Act.put, List.setIfInBounds_toArray, List.set_cons_zero, List.set_cons_succ]
        refine takeR (i := 3) (x := 82) (v := .pointer (some ⟨lb, off + k * 8, none⟩)) rfl (by kernel_rfl) (by kernel_rfl) (by kernel_rfl) (fun _ _ _ h => h) (RD.on (by decide) (by decide)) (by intro l w h; go_simp) ?_
        simp only [Act.put, List.setIfInBounds_toArray, List.set_cons_zero, List.set_cons_succ]
        refine takeR (i := 4) (x := 83) (v := .pointer (some ⟨lb, off + k * 8 + 1, none⟩)) rfl (by kernel_rfl) (by kernel_rfl) (by kernel_rfl) (fun _ _ _ h => h) (RD.on (by decide) (by decide)) (by intro l w h; go_simp) ?_
        simp only [Act.put, List.setIfInBounds_toArray, List.set_cons_zero, List.set_cons_succ]
        refine takeR (i := 5) (x := 84) (v := .int .i64 ka) rfl (by kernel_rfl) (by kernel_rfl) (by kernel_rfl) (fun _ _ _ h => h) (RD.on (by decide) (by decide)) (by intro l w h; have hq := (HK.out _ h.1).2.1; clear h; go_simp) ?_
        simp only [Act.put, List.setIfInBounds_toArray, List.set_cons_zero, List.set_cons_succ]
        refine takeR (i := 7) (x := 86) (v := .pointer (some ⟨bt + 1, 0, none⟩)) rfl (by kernel_rfl) (by kernel_rfl) (by kernel_rfl) (fun _ _ _ h => h) (RD.on (by decide) (by decide)) (by intro l w h; go_simp) ?_
        simp only [Act.put, List.setIfInBounds_toArray, List.set_cons_zero, List.set_cons_succ]
        refine takeR (i := 8) (x := 87) (v := .slice (some ⟨lb, off, none⟩) len cap) rfl (by kernel_rfl) (by kernel_rfl) (by kernel_rfl) (fun _ _ _ h => h) (RD.on (by decide) (by decide)) (by intro l w h; go_simp) ?_
        simp only [Act.put, List.setIfInBounds_toArray, List.set_cons_zero, List.set_cons_succ]
        refine takeR (i := 9) (x := 88) (v := .int .i64 (k : Int)) rfl (by kernel_rfl) (by kernel_rfl) (by kernel_rfl) (fun _ _ _ h => h) (RD.on (by decide) (by decide)) (by intro l w h; go_simp) ?_
        simp only [Act.put, List.setIfInBounds_toArray, List.set_cons_zero, List.set_cons_succ]
        refine takeR (i := 10) (x := 89) (v := .pointer (some ⟨lb, off + k * 8, none⟩)) rfl (by kernel_rfl) (by kernel_rfl) (by kernel_rfl) (fun _ _ _ h => h) (RD.on (by decide) (by decide)) (by intro l w h; go_simp) ?_
        simp only [Act.put, List.setIfInBounds_toArray, List.set_cons_zero, List.set_cons_succ]
        refine takeR (i := 11) (x := 90) (v := .pointer (some ⟨lb, off + k * 8 + 1, none⟩)) rfl (by kernel_rfl) (by kernel_rfl) (by kernel_rfl) (fun _ _ _ h => h) (RD.on (by decide) (by decide)) (by intro l w h; go_simp) ?_
        simp only [Act.put, List.setIfInBounds_toArray, List.set_cons_zero, List.set_cons_succ]
        refine takeR (i := 12) (x := 91) (v := .int .i64 ka) rfl (by kernel_rfl) (by kernel_rfl) (by kernel_rfl) (fun _ _ _ h => h) (RD.on (by decide) (by decide)) (by intro l w h; have hq := (HK.out _ h.1).2.1; clear h; go_simp) ?_
        simp only [Act.put, List.setIfInBounds_toArray, List.set_cons_zero, List.set_cons_succ]
        refine takeK (i := 6) (x := 85) (v := ev) 9 #[.pointer (some ⟨bt, 0, none⟩), .int .i64 ka] rfl (by kernel_rfl) (by intro w; go_simp) (fun w h => have hu := RD.un false false (by kernel_rfl) (by kernel_rfl) h; (HA1.out w hu.1 hu.2.1).mono fun e w' ⟨he, hg, ht⟩ => ⟨he, RD.mk true false (by kernel_rfl) (by kernel_rfl) ⟨hu.1.gro hg (HST.out _ hu.1) (fun g e => by injection e with e; omega), ht, hu.2.2.1.gro hg (by simp), hu.2.2.2.gro hg (by simp; exact hb2)⟩⟩) ?_
        simp only [Act.put, List.setIfInBounds_toArray, List.set_cons_zero, List.set_cons_succ]
        refine takeK (i := 13) (x := 92) (v := .int .i64 cd) 17 #[.pointer (some ⟨bt + 1, 0, none⟩), .int .i64 ka] rfl (by kernel_rfl) (by intro w; go_simp) (fun w h => have hu := RD.un true false (by kernel_rfl) (by kernel_rfl) h; (HA2.out w hu.2.2.1).mono fun e w' ⟨he, hg, ht⟩ => ⟨he, RD.mk true true (by kernel_rfl) (by kernel_rfl) ⟨hu.1.gro hg (HST.out _ hu.1) (fun g e => by injection e with e; omega), hu.2.1.gro hg (by simp), ht, hu.2.2.2.gro hg (by simp; exact hb3)⟩⟩) ?_
        simp only [Act.put, List.setIfInBounds_toArray, List.set_cons_zero, List.set_cons_succ]
        refine takeK (i := 14) (x := 93) (v := .bool true) 13 #[ev, .int .i64 cd] rfl (by kernel_rfl) (by intro w; go_simp) (fun w h => have hu := RD.un true true (by kernel_rfl) (by kernel_rfl) h; (HIS.out w hu.1).mono fun e w' ⟨he, hg⟩ => ⟨he, RD.mk true true (by kernel_rfl) (by kernel_rfl) ⟨hu.1.gro hg (HST.out _ hu.1) (fun _ e => by cases e), hu.2.1.gro hg (by simp), hu.2.2.1.gro hg (by simp), hu.2.2.2.gro hg (by simp)⟩⟩) ?_
        simp only [Act.put, List.setIfInBounds_toArray, List.set_cons_zero, List.set_cons_succ]
        refine takeR (i := 15) (x := 94) (v := .bool false) rfl (by kernel_rfl) (by kernel_rfl) (by kernel_rfl) (fun _ _ _ h => h) (RD.on (by decide) (by decide)) (by intro l w h; go_simp) ?_
        simp only [Act.put, List.setIfInBounds_toArray, List.set_cons_zero, List.set_cons_succ]
        refine wpAnyS_done (by kernel_rfl) fun w5 h5 => ?_
        have hu := RD.un true true (by kernel_rfl) (by kernel_rfl) h5
        have HP7 := Lib.hid (⟨hu.1, hu.2.1, hu.2.2.1, HE'.out⟩ : PI w1 S bt (bt + 1) T' ((k : Int) + 1) w5)
        have HTC7 := Lib.hid hu.2.2.2
        clear h5 hu
        go_wp2_with fail
        go_meet
        case rel => exact ⟨T', HP7.out, HTC7.out⟩
    case rest =>
    obtain ⟨T', hP, hTc⟩ := hcut
    have HP := Lib.hid hP
    have HTC := Lib.hid hTc
    obtain ⟨m, hm, hno, hyes⟩ := least_of (hitB T' x) 16
    have HFI := Lib.hid (fun w' (h : Tab bt w' T') => find_any bt x m w' T' h hm hno hyes)
    have HDF := Lib.hid (fun w' (h : DTab (bt + 1) w' T') => dfind_any (bt + 1) x m w' T' h hm hno hyes)
    have hbx := HBX.out _ hP.far
    clear hP hTc hno hyes HP4 HTC4 HC HS HY hr c0 c1
    unfold adV at HFI HDF
    go_wp2_with (refine load_row rfl 25 _ rfl W.heap.size rfl #[.int .u8 x.b0, .int .u8 x.b1, .int .u8 x.b2, .int .u8 x.b3, .int .u8 x.b4, .int .u8 x.b5] 25 hbx _ Tryd.underlying25 rfl (by kernel_rfl) ?_)
    refine (HFI.out _ HP.out.t).mono ?_
    rintro e w5 ⟨rfl, hg5⟩
    have HP5 := Lib.hid (HP.out.gro hg5 hbtw)
    have HTC5 := Lib.hid (HTC.out.gro hg5 (by simp))
    clear hbx
    have hbx := HBX.out _ HP5.out.far
    clear HP HTC hg5 HFI
    go_wp2_with (refine load_row rfl 25 _ rfl W.heap.size rfl #[.int .u8 x.b0, .int .u8 x.b1, .int .u8 x.b2, .int .u8 x.b3, .int .u8 x.b4, .int .u8 x.b5] 25 hbx _ Tryd.underlying25 rfl (by kernel_rfl) ?_)
    refine (HDF.out _ HP5.out.d).mono ?_
    rintro e w6 ⟨rfl, hg6⟩
    have HP6 := Lib.hid (HP5.out.gro hg6 hbtw)
    have HTC6 := Lib.hid (HTC5.out.gro hg6 (by simp))
    clear HP5 HTC5 hg6 HDF hbx
    have HFV : Hid ((decide (m < 16) = true ∧ 0 < findI m) ∨ (decide (m < 16) = false ∧ findI m = 0)) := by
      unfold Hid findI
      by_cases h : m < 16
      · left; rw [if_pos h]; exact ⟨decide_eq_true h, by omega⟩
      · right; rw [if_neg h]; exact ⟨decide_eq_false h, rfl⟩
    generalize decide (m < 16) = is at *
    generalize findI m = fi at *
    clear hm
    go_upto_region 22 with fail
    go_cut [130] from 104 to 130 (fun v w => v = .bool false ∧ Gro none w6 w)
    case first =>
      rcases HFV.out with ⟨rfl, hfi⟩ | ⟨rfl, rfl⟩
      case inl =>
        go_wp2_with fail
        refine (all_any bt w6 T' HP6.out.t).mono ?_
        rintro e w7 ⟨v, rfl, hg7, ho⟩
        obtain ⟨p1, q1, rfl, hl1⟩ := OwnI.lie ho
        have HL1 := Lib.hid hl1
        have HP7 := Lib.hid (HP6.out.gro hg7 hbtw)
        have HG7 := Lib.hid hg7
        clear ho hl1 hg7
        go_wp2_with fail
        refine (dall_any (bt + 1) w7 T' HP7.out.d).mono ?_
        rintro e w8 ⟨v, rfl, hg8, ho⟩
        obtain ⟨p2, q2, rfl, hl2⟩ := OwnI.lie ho
        have HSI := Lib.hid (sameInts_any p1 p2 q1 q2 (allL T' 16) (allL T' 16) w8 (HL1.out.gro hg8 (by simp)) hl2 (by have := allL_le T' 16; omega))
        rw [decide_eq_true rfl] at HSI
        have HG8 := Lib.hid (HG7.out.trans hg8)
        clear ho hl2 hg8 HL1 HG7 HP7
        go_wp2_with fail
        refine HSI.out.mono ?_
        rintro e w9 ⟨rfl, hg9⟩
        have HG9 := Lib.hid (HG8.out.trans hg9)
        clear HSI HG8 hg9
        go_wp2_with fail
        refine (all_any bc w9 T (HTC6.out.gro HG9.out (by simp))).mono ?_
        rintro e w10 ⟨v, rfl, hg10, ho⟩
        obtain ⟨p3, q3, rfl, -⟩ := OwnI.lie ho
        have HG10 := Lib.hid (HG9.out.trans hg10)
        rw [HWAS.out]
        clear ho hg10 HG9
        go_wp2_with fail
        go_meet
        case rel => exact ⟨rfl, HG10.out⟩
      case inr =>
        go_wp2_with fail
        refine (all_any bt w6 T' HP6.out.t).mono ?_
        rintro e w7 ⟨v, rfl, hg7, ho⟩
        obtain ⟨p1, q1, rfl, hl1⟩ := OwnI.lie ho
        have HL1 := Lib.hid hl1
        have HP7 := Lib.hid (HP6.out.gro hg7 hbtw)
        have HG7 := Lib.hid hg7
        clear ho hl1 hg7
        go_wp2_with fail
        refine (dall_any (bt + 1) w7 T' HP7.out.d).mono ?_
        rintro e w8 ⟨v, rfl, hg8, ho⟩
        obtain ⟨p2, q2, rfl, hl2⟩ := OwnI.lie ho
        have HSI := Lib.hid (sameInts_any p1 p2 q1 q2 (allL T' 16) (allL T' 16) w8 (HL1.out.gro hg8 (by simp)) hl2 (by have := allL_le T' 16; omega))
        rw [decide_eq_true rfl] at HSI
        have HG8 := Lib.hid (HG7.out.trans hg8)
        clear ho hl2 hg8 HL1 HG7 HP7
        go_wp2_with fail
        refine HSI.out.mono ?_
        rintro e w9 ⟨rfl, hg9⟩
        have HG9 := Lib.hid (HG8.out.trans hg9)
        clear HSI HG8 hg9
        go_wp2_with fail
        refine (all_any bc w9 T (HTC6.out.gro HG9.out (by simp))).mono ?_
        rintro e w10 ⟨v, rfl, hg10, ho⟩
        obtain ⟨p3, q3, rfl, -⟩ := OwnI.lie ho
        have HG10 := Lib.hid (HG9.out.trans hg10)
        rw [HWAS.out]
        clear ho hg10 HG9
        go_wp2_with fail
        go_meet
        case rel => exact ⟨rfl, HG10.out⟩
    case rest =>
    obtain ⟨rfl, hg⟩ := hcut
    have HP8 := Lib.hid (HP6.out.gro hg hbtw)
    clear hg HP6 HTC6 HFV
    go_wp2_with fail
    go_loopw [18] (fun i wr => ∃ q : Nat, q ≤ 18 ∧ i = .int .i64 q ∧ Gro none wc wr) (fun i _ => 18 - (intOf i).toNat)
    case atStart => exact ⟨0, by omega, rfl, Gro.refl _ _⟩
    case round =>
      obtain ⟨q, hq, rfl, hgq⟩ := hrel
      by_cases h18 : q ≤ 17
      case neg =>
        obtain rfl : q = 18 := by omega
        have HP9 := Lib.hid (HP8.out.gro hgq hbtw)
        clear hgq
        go_wp2_with fail
        go_roundw
        case rel => exact ⟨k + 1, T', by omega, by go_num, by have h := HP9.out; exact h⟩
        case measure => simp [intOf]; omega
      have HT9 := Lib.hid (HP8.out.t.gro hgq (by simp))
      have HD9 := Lib.hid (HP8.out.d.gro hgq (by simp))
      have HGQ := Lib.hid hgq
      have HEP := Lib.hid HP8.out.ep
      clear hgq
      have i17 : (q : Int) < 18 := by omega
      have i00 : (0 : Int) ≤ (q : Int) := by omega
      by_cases hin : 1 ≤ q ∧ q ≤ 16
      case pos =>
        have i1 : (1 : Int) ≤ (q : Int) := by omega
        have i2 : (q : Int) ≤ 16 := by omega
        have i3 : (q : Int) < 17 := by omega
        have hj : q - 1 < 16 := by omega
        have hja : (q : Int) = ((q - 1 : Nat) : Int) + 1 := by omega
        have HE2 := Lib.hid (fun w' (h : Gro none wr w') => epoch_in bt (q : Int) (q - 1) w' T' (HT9.out.gro h (by simp)) hj hja)
        have HEC : Hid (∀ w', Gro none wr w' → w'.cell? ⟨bt + 1, 119 + q, none⟩ = some (.int .i64 (T' (q - 1)).ep)) := fun w' h => by
          have := (HD9.out.gro h (by simp)).epoch (q - 1) hj
          rwa [show 120 + (q - 1) = 119 + q by omega] at this
        have HTH : Hid (∀ w', Gro none wr w' → w'.cell? ⟨bt + 1, 102 + q, none⟩ = some (.bool (T' (q - 1)).th)) := fun w' h => by
          have := (HD9.out.gro h (by simp)).there (q - 1) hj
          rwa [show 103 + (q - 1) = 102 + q by omega] at this
        cases hth : (T' (q - 1)).th with
        | true =>
          rw [hth] at HTH
          have HDR := Lib.hid (fun w' (h : Gro none wr w') => (HD9.out.gro h (by simp)).range (q - 1) hj (q * 6) (by omega))
          have HAD := Lib.hid (addr_there bt (q : Int) (q - 1) wr T' HT9.out hj hja hth)
          have HSA := Lib.hid (fun w' => sameAddr_any (T' (q - 1)).a (T' (q - 1)).a w')
          rw [eqA_self] at HSA
          generalize (T' (q - 1)).a = y at *
          generalize (T' (q - 1)).ep = ep at *
          clear hth hja HT9 HD9
          unfold adV at HAD HSA
          skip
          as_aux_lemma =>
            go_wp2_with fail
            refine HAD.out.mono ?_
            rintro e w5 ⟨rfl, hg5⟩
            have HG5 := Lib.hid hg5
            clear hg5 HAD
            go_wp2_with (refine alloc_row rfl 25 rfl 19 rfl #[.int .u8 0, .int .u8 0, .int .u8 0, .int .u8 0, .int .u8 0, .int .u8 0] 25 addr_run rfl (.tmp 139) rfl (by first | (simp; done) | (simp [Act.put]; done)) #[.int .u8 y.b0, .int .u8 y.b1, .int .u8 y.b2, .int .u8 y.b3, .int .u8 y.b4, .int .u8 y.b5] (by rfl) rfl (by kernel_rfl) (by simp [Value.oneCell']) ?_)
            intro w7 hg7 hr7
            have HGA := Lib.hid (HG5.out.trans hg7)
            generalize w5.heap.size = B at *
            have HBR := Lib.hid (fun w' (h : Gro none w7 w') => (h.block B (blk_in hr7) (by simp)).trans hr7)
            clear hg7 hr7 HG5
            go_wp2_with fail
            refine wp_region_G (by kernel_rfl) ?_
            refine gY (i := 0) (x := 147) (v := .bool true) rfl (by kernel_rfl) (by kernel_rfl) (by kernel_rfl) (fun _ _ _ h => h) (by rfl) (by intro w' k; go_simp) ?_
            simp only [Act.put, List.setIfInBounds_toArray, List.set_cons_zero, List.set_cons_succ]
            refine gY (i := 1) (x := 148) (v := .bool true) rfl (by kernel_rfl) (by kernel_rfl) (by kernel_rfl) (fun _ _ _ h => h) (by rfl) (by intro w' k; go_simp) ?_
            simp only [Act.put, List.setIfInBounds_toArray, List.set_cons_zero, List.set_cons_succ]
            refine gY (i := 2) (x := 149) (v := .bool true) rfl (by kernel_rfl) (by kernel_rfl) (by kernel_rfl) (fun _ _ _ h => h) (by rfl) (by intro w' k; go_simp) ?_
            simp only [Act.put, List.setIfInBounds_toArray, List.set_cons_zero, List.set_cons_succ]
            refine gY (i := 3) (x := 150) (v := .pointer (some ⟨bt + 1, 0, none⟩)) rfl (by kernel_rfl) (by kernel_rfl) (by kernel_rfl) (fun _ _ _ h => h) (by rfl) (by intro w' k; go_simp) ?_
            simp only [Act.put, List.setIfInBounds_toArray, List.set_cons_zero, List.set_cons_succ]
            refine gY (i := 4) (x := 151) (v := .int .i64 (q : Int)) rfl (by kernel_rfl) (by kernel_rfl) (by kernel_rfl) (fun _ _ _ h => h) (by rfl) (by intro w' k; go_simp) ?_
            simp only [Act.put, List.setIfInBounds_toArray, List.set_cons_zero, List.set_cons_succ]
            refine gY (i := 5) (x := 152) (v := .pointer (some ⟨bt + 1, 0, none⟩)) rfl (by kernel_rfl) (by kernel_rfl) (by kernel_rfl) (fun _ _ _ h => h) (by rfl) (by intro w' k; go_simp) ?_
            simp only [Act.put, List.setIfInBounds_toArray, List.set_cons_zero, List.set_cons_succ]
            refine gY (i := 6) (x := 153) (v := .pointer (some ⟨bt + 1, 102, none⟩)) rfl (by kernel_rfl) (by kernel_rfl) (by kernel_rfl) (fun _ _ _ h => h) (by rfl) (by intro w' k; go_simp) ?_
            simp only [Act.put, List.setIfInBounds_toArray, List.set_cons_zero, List.set_cons_succ]
            refine gY (i := 7) (x := 154) (v := .pointer (some ⟨bt + 1, 102 + q, none⟩)) rfl (by kernel_rfl) (by kernel_rfl) (by kernel_rfl) (fun _ _ _ h => h) (by rfl) (by intro w' k; go_simp) ?_
            simp only [Act.put, List.setIfInBounds_toArray, List.set_cons_zero, List.set_cons_succ]
            refine gY (i := 8) (x := 155) (v := .bool true) rfl (by kernel_rfl) (by kernel_rfl) (by kernel_rfl) (fun _ _ _ h => h) (by rfl) (by intro w' k; have hq := HTH.out w' (HGA.out.trans k); clear k; go_simp) ?_
            simp only [Act.put, List.setIfInBounds_toArray, List.set_cons_zero, List.set_cons_succ]
            refine gY (i := 9) (x := 156) (v := .bool true) rfl (by kernel_rfl) (by kernel_rfl) (by kernel_rfl) (fun _ _ _ h => h) (by rfl) (by intro w' k; go_simp) ?_
            simp only [Act.put, List.setIfInBounds_toArray, List.set_cons_zero, List.set_cons_succ]
            refine gY (i := 10) (x := 157) (v := .bool false) rfl (by kernel_rfl) (by kernel_rfl) (by kernel_rfl) (fun _ _ _ h => h) (by rfl) (by intro w' k; go_simp) ?_
            simp only [Act.put, List.setIfInBounds_toArray, List.set_cons_zero, List.set_cons_succ]
            refine gY (i := 11) (x := 158) (v := .bool false) rfl (by kernel_rfl) (by kernel_rfl) (by kernel_rfl) (fun _ _ _ h => h) (by rfl) (by intro w' k; go_simp) ?_
            simp only [Act.put, List.setIfInBounds_toArray, List.set_cons_zero, List.set_cons_succ]
            refine gY (i := 12) (x := 159) (v := .bool true) rfl (by kernel_rfl) (by kernel_rfl) (by kernel_rfl) (fun _ _ _ h => h) (by rfl) (by intro w' k; go_simp) ?_
            simp only [Act.put, List.setIfInBounds_toArray, List.set_cons_zero, List.set_cons_succ]
            refine gY (i := 13) (x := 160) (v := .bool true) rfl (by kernel_rfl) (by kernel_rfl) (by kernel_rfl) (fun _ _ _ h => h) (by rfl) (by intro w' k; go_simp) ?_
            simp only [Act.put, List.setIfInBounds_toArray, List.set_cons_zero, List.set_cons_succ]
            refine gY (i := 14) (x := 161) (v := .agg #[.int .u8 y.b0, .int .u8 y.b1, .int .u8 y.b2, .int .u8 y.b3, .int .u8 y.b4, .int .u8 y.b5]) rfl (by kernel_rfl) (by kernel_rfl) (by kernel_rfl) (fun _ _ _ h => h) (by rfl) (fun w' k => run_row 25 _ rfl B rfl _ _ (HBR.out w' k) _ Tryd.underlying25 rfl (by kernel_rfl)) ?_
            simp only [Act.put, List.setIfInBounds_toArray, List.set_cons_zero, List.set_cons_succ]
            refine gY (i := 15) (x := 162) (v := .pointer (some ⟨bt + 1, 0, none⟩)) rfl (by kernel_rfl) (by kernel_rfl) (by kernel_rfl) (fun _ _ _ h => h) (by rfl) (by intro w' k; go_simp) ?_
            simp only [Act.put, List.setIfInBounds_toArray, List.set_cons_zero, List.set_cons_succ]
            refine gY (i := 16) (x := 163) (v := .int .i64 (q : Int)) rfl (by kernel_rfl) (by kernel_rfl) (by kernel_rfl) (fun _ _ _ h => h) (by rfl) (by intro w' k; go_simp) ?_
            simp only [Act.put, List.setIfInBounds_toArray, List.set_cons_zero, List.set_cons_succ]
            refine gY (i := 17) (x := 164) (v := .pointer (some ⟨bt + 1, 0, none⟩)) rfl (by kernel_rfl) (by kernel_rfl) (by kernel_rfl) (fun _ _ _ h => h) (by rfl) (by intro w' k; go_simp) ?_
            simp only [Act.put, List.setIfInBounds_toArray, List.set_cons_zero, List.set_cons_succ]
            refine gY (i := 18) (x := 165) (v := .pointer (some ⟨bt + 1, 0, none⟩)) rfl (by kernel_rfl) (by kernel_rfl) (by kernel_rfl) (fun _ _ _ h => h) (by rfl) (by intro w' k; go_simp) ?_
            simp only [Act.put, List.setIfInBounds_toArray, List.set_cons_zero, List.set_cons_succ]
            refine gY (i := 19) (x := 166) (v := .pointer (some ⟨bt + 1, q * 6, none⟩)) rfl (by kernel_rfl) (by kernel_rfl) (by kernel_rfl) (fun _ _ _ h => h) (by rfl) (by intro w' k; go_simp) ?_
            simp only [Act.put, List.setIfInBounds_toArray, List.set_cons_zero, List.set_cons_succ]
            refine gY (i := 20) (x := 167) (v := .agg #[.int .u8 y.b0, .int .u8 y.b1, .int .u8 y.b2, .int .u8 y.b3, .int .u8 y.b4, .int .u8 y.b5]) rfl (by kernel_rfl) (by kernel_rfl) (by kernel_rfl) (fun _ _ _ h => h) (by rfl) (fun w' k => run_at 25 _ rfl (bt + 1) (q * 6) rfl _ (HDR.out w' (HGA.out.trans k)) _ Tryd.underlying25 rfl (by kernel_rfl)) ?_
            simp only [Act.put, List.setIfInBounds_toArray, List.set_cons_zero, List.set_cons_succ]
            refine gC (i := 21) (x := 168) (v := .bool true) 21 #[.agg #[.int .u8 y.b0, .int .u8 y.b1, .int .u8 y.b2, .int .u8 y.b3, .int .u8 y.b4, .int .u8 y.b5], .agg #[.int .u8 y.b0, .int .u8 y.b1, .int .u8 y.b2, .int .u8 y.b3, .int .u8 y.b4, .int .u8 y.b5]] rfl (by kernel_rfl) (by kernel_rfl) (by kernel_rfl) (fun _ _ _ h => h) (by rfl) (by intro w'; go_simp) (fun w' k => HSA.out w') ?_
            simp only [Act.put, List.setIfInBounds_toArray, List.set_cons_zero, List.set_cons_succ]
            refine gY (i := 22) (x := 169) (v := .bool false) rfl (by kernel_rfl) (by kernel_rfl) (by kernel_rfl) (fun _ _ _ h => h) (by rfl) (by intro w' k; go_simp) ?_
            simp only [Act.put, List.setIfInBounds_toArray, List.set_cons_zero, List.set_cons_succ]
            refine gY (i := 23) (x := 170) (v := .bool false) rfl (by kernel_rfl) (by kernel_rfl) (by kernel_rfl) (fun _ _ _ h => h) (by rfl) (by intro w' k; go_simp) ?_
            simp only [Act.put, List.setIfInBounds_toArray, List.set_cons_zero, List.set_cons_succ]
            refine gY (i := 24) (x := 171) (v := .bool false) rfl (by kernel_rfl) (by kernel_rfl) (by kernel_rfl) (fun _ _ _ h => h) (by rfl) (by intro w' k; go_simp) ?_
            simp only [Act.put, List.setIfInBounds_toArray, List.set_cons_zero, List.set_cons_succ]
            refine gY (i := 25) (x := 172) (v := .bool false) rfl (by kernel_rfl) (by kernel_rfl) (by kernel_rfl) (fun _ _ _ h => h) (by rfl) (by intro w' k; go_simp) ?_
            simp only [Act.put, List.setIfInBounds_toArray, List.set_cons_zero, List.set_cons_succ]
            refine gY (i := 26) (x := 173) (v := .bool true) rfl (by kernel_rfl) (by kernel_rfl) (by kernel_rfl) (fun _ _ _ h => h) (by rfl) (by intro w' k; go_simp) ?_
            simp only [Act.put, List.setIfInBounds_toArray, List.set_cons_zero, List.set_cons_succ]
            refine gY (i := 27) (x := 174) (v := .bool true) rfl (by kernel_rfl) (by kernel_rfl) (by kernel_rfl) (fun _ _ _ h => h) (by rfl) (by intro w' k; go_simp) ?_
            simp only [Act.put, List.setIfInBounds_toArray, List.set_cons_zero, List.set_cons_succ]
            refine gY (i := 28) (x := 175) (v := .pointer (some ⟨bt, 0, none⟩)) rfl (by kernel_rfl) (by kernel_rfl) (by kernel_rfl) (fun _ _ _ h => h) (by rfl) (by intro w' k; go_simp) ?_
            simp only [Act.put, List.setIfInBounds_toArray, List.set_cons_zero, List.set_cons_succ]
            refine gY (i := 29) (x := 176) (v := .int .i64 (q : Int)) rfl (by kernel_rfl) (by kernel_rfl) (by kernel_rfl) (fun _ _ _ h => h) (by rfl) (by intro w' k; go_simp) ?_
            simp only [Act.put, List.setIfInBounds_toArray, List.set_cons_zero, List.set_cons_succ]
            refine gC (i := 30) (x := 177) (v := .int .i64 ep) 12 #[.pointer (some ⟨bt, 0, none⟩), .int .i64 (q : Int)] rfl (by kernel_rfl) (by kernel_rfl) (by kernel_rfl) (fun _ _ _ h => h) (by rfl) (by intro w'; go_simp) (fun w' k => (HE2.out w' (HGA.out.trans k)).mono (by rintro e w2 ⟨rfl, rfl⟩; exact ⟨rfl, Gro.refl _ _⟩)) ?_
            simp only [Act.put, List.setIfInBounds_toArray, List.set_cons_zero, List.set_cons_succ]
            refine gY (i := 31) (x := 178) (v := .pointer (some ⟨bt + 1, 0, none⟩)) rfl (by kernel_rfl) (by kernel_rfl) (by kernel_rfl) (fun _ _ _ h => h) (by rfl) (by intro w' k; go_simp) ?_
            simp only [Act.put, List.setIfInBounds_toArray, List.set_cons_zero, List.set_cons_succ]
            refine gY (i := 32) (x := 179) (v := .int .i64 (q : Int)) rfl (by kernel_rfl) (by kernel_rfl) (by kernel_rfl) (fun _ _ _ h => h) (by rfl) (by intro w' k; go_simp) ?_
            simp only [Act.put, List.setIfInBounds_toArray, List.set_cons_zero, List.set_cons_succ]
            refine gY (i := 33) (x := 180) (v := .pointer (some ⟨bt + 1, 0, none⟩)) rfl (by kernel_rfl) (by kernel_rfl) (by kernel_rfl) (fun _ _ _ h => h) (by rfl) (by intro w' k; go_simp) ?_
            simp only [Act.put, List.setIfInBounds_toArray, List.set_cons_zero, List.set_cons_succ]
            refine gY (i := 34) (x := 181) (v := .pointer (some ⟨bt + 1, 119, none⟩)) rfl (by kernel_rfl) (by kernel_rfl) (by kernel_rfl) (fun _ _ _ h => h) (by rfl) (by intro w' k; go_simp) ?_
            simp only [Act.put, List.setIfInBounds_toArray, List.set_cons_zero, List.set_cons_succ]
            refine gY (i := 35) (x := 182) (v := .pointer (some ⟨bt + 1, 119 + q, none⟩)) rfl (by kernel_rfl) (by kernel_rfl) (by kernel_rfl) (fun _ _ _ h => h) (by rfl) (by intro w' k; go_simp) ?_
            simp only [Act.put, List.setIfInBounds_toArray, List.set_cons_zero, List.set_cons_succ]
            refine gY (i := 36) (x := 183) (v := .int .i64 ep) rfl (by kernel_rfl) (by kernel_rfl) (by kernel_rfl) (fun _ _ _ h => h) (by rfl) (by intro w' k; have hq := HEC.out w' (HGA.out.trans k); clear k; go_simp) ?_
            simp only [Act.put, List.setIfInBounds_toArray, List.set_cons_zero, List.set_cons_succ]
            refine gY (i := 37) (x := 184) (v := .bool false) rfl (by kernel_rfl) (by kernel_rfl) (by kernel_rfl) (fun _ _ _ h => h) (by rfl) (by intro w' k; go_simp) ?_
            simp only [Act.put, List.setIfInBounds_toArray, List.set_cons_zero, List.set_cons_succ]
            refine gY (i := 38) (x := 185) (v := .bool false) rfl (by kernel_rfl) (by kernel_rfl) (by kernel_rfl) (fun _ _ _ h => h) (by rfl) (by intro w' k; go_simp) ?_
            simp only [Act.put, List.setIfInBounds_toArray, List.set_cons_zero, List.set_cons_succ]
            refine gY (i := 39) (x := 186) (v := .bool false) rfl (by kernel_rfl) (by kernel_rfl) (by kernel_rfl) (fun _ _ _ h => h) (by rfl) (by intro w' k; go_simp) ?_
            simp only [Act.put, List.setIfInBounds_toArray, List.set_cons_zero, List.set_cons_succ]
            refine gY (i := 40) (x := 187) (v := .bool false) rfl (by kernel_rfl) (by kernel_rfl) (by kernel_rfl) (fun _ _ _ h => h) (by rfl) (by intro w' k; go_simp) ?_
            simp only [Act.put, List.setIfInBounds_toArray, List.set_cons_zero, List.set_cons_succ]
            refine gY (i := 41) (x := 188) (v := .bool true) rfl (by kernel_rfl) (by kernel_rfl) (by kernel_rfl) (fun _ _ _ h => h) (by rfl) (by intro w' k; go_simp) ?_
            simp only [Act.put, List.setIfInBounds_toArray, List.set_cons_zero, List.set_cons_succ]
            refine gY (i := 42) (x := 189) (v := .bool false) rfl (by kernel_rfl) (by kernel_rfl) (by kernel_rfl) (fun _ _ _ h => h) (by rfl) (by intro w' k; go_simp) ?_
            simp only [Act.put, List.setIfInBounds_toArray, List.set_cons_zero, List.set_cons_succ]
            refine gY (i := 43) (x := 190) (v := .bool false) rfl (by kernel_rfl) (by kernel_rfl) (by kernel_rfl) (fun _ _ _ h => h) (by rfl) (by intro w' k; go_simp) ?_
            simp only [Act.put, List.setIfInBounds_toArray, List.set_cons_zero, List.set_cons_succ]
            refine gN (i := 44) (x := 191) rfl (by kernel_rfl) (by kernel_rfl) (by kernel_rfl) (fun _ _ _ h => h) (by rfl) ?_
            simp only [Act.put, List.setIfInBounds_toArray, List.set_cons_zero, List.set_cons_succ]
            refine gN (i := 45) (x := 192) rfl (by kernel_rfl) (by kernel_rfl) (by kernel_rfl) (fun _ _ _ h => h) (by rfl) ?_
            simp only [Act.put, List.setIfInBounds_toArray, List.set_cons_zero, List.set_cons_succ]
            refine gN (i := 46) (x := 193) rfl (by kernel_rfl) (by kernel_rfl) (by kernel_rfl) (fun _ _ _ h => h) (by rfl) ?_
            simp only [Act.put, List.setIfInBounds_toArray, List.set_cons_zero, List.set_cons_succ]
            refine gN (i := 47) (x := 194) rfl (by kernel_rfl) (by kernel_rfl) (by kernel_rfl) (fun _ _ _ h => h) (by rfl) ?_
            simp only [Act.put, List.setIfInBounds_toArray, List.set_cons_zero, List.set_cons_succ]
            refine gY (i := 48) (x := 195) (v := .bool false) rfl (by kernel_rfl) (by kernel_rfl) (by kernel_rfl) (fun _ _ _ h => h) (by rfl) (by intro w' k; go_simp) ?_
            simp only [Act.put, List.setIfInBounds_toArray, List.set_cons_zero, List.set_cons_succ]
            refine gY (i := 49) (x := 196) (v := .bool false) rfl (by kernel_rfl) (by kernel_rfl) (by kernel_rfl) (fun _ _ _ h => h) (by rfl) (by intro w' k; go_simp) ?_
            simp only [Act.put, List.setIfInBounds_toArray, List.set_cons_zero, List.set_cons_succ]
            refine gDone (by kernel_rfl) fun w8 hg8 => ?_
            have HG8 := Lib.hid (HGQ.out.trans (HGA.out.trans hg8))
            clear hg8 HBR HGA
            go_wp2_with fail
            go_roundw
            case rel => exact ⟨q + 1, by omega, by go_num, HG8.out⟩
            case measure => simp [intOf]; omega
        | false =>
          rw [hth] at HTH
          have HAD := Lib.hid (addr_none bt (q : Int) wr T' HT9.out (fun j hj' h => by obtain rfl : j = q - 1 := by omega
                                                                                       exact hth))
          generalize (T' (q - 1)).ep = ep at *
          clear hth hja HT9 HD9
          unfold adV adZ at HAD
          skip
          as_aux_lemma =>
            go_wp2_with fail
            refine HAD.out.mono ?_
            rintro e w5 ⟨rfl, hg5⟩
            have HG5 := Lib.hid hg5
            clear hg5 HAD
            go_wp2_with (refine alloc_row rfl 25 rfl 19 rfl #[.int .u8 0, .int .u8 0, .int .u8 0, .int .u8 0, .int .u8 0, .int .u8 0] 25 addr_run rfl (.tmp 139) rfl (by first | (simp; done) | (simp [Act.put]; done)) #[.int .u8 0, .int .u8 0, .int .u8 0, .int .u8 0, .int .u8 0, .int .u8 0] (by rfl) rfl (by kernel_rfl) (by simp [Value.oneCell']) ?_)
            intro w7 hg7 hr7
            have HGA := Lib.hid (HG5.out.trans hg7)
            generalize w5.heap.size = B at *
            have HBR := Lib.hid (fun w' (h : Gro none w7 w') => (h.block B (blk_in hr7) (by simp)).trans hr7)
            clear hg7 hr7 HG5
            go_wp2_with fail
            refine wp_region_G (by kernel_rfl) ?_
            refine gY (i := 0) (x := 147) (v := .bool false) rfl (by kernel_rfl) (by kernel_rfl) (by kernel_rfl) (fun _ _ _ h => h) (by rfl) (by intro w' k; go_simp) ?_
            simp only [Act.put, List.setIfInBounds_toArray, List.set_cons_zero, List.set_cons_succ]
            refine gY (i := 1) (x := 148) (v := .bool true) rfl (by kernel_rfl) (by kernel_rfl) (by kernel_rfl) (fun _ _ _ h => h) (by rfl) (by intro w' k; go_simp) ?_
            simp only [Act.put, List.setIfInBounds_toArray, List.set_cons_zero, List.set_cons_succ]
            refine gY (i := 2) (x := 149) (v := .bool true) rfl (by kernel_rfl) (by kernel_rfl) (by kernel_rfl) (fun _ _ _ h => h) (by rfl) (by intro w' k; go_simp) ?_
            simp only [Act.put, List.setIfInBounds_toArray, List.set_cons_zero, List.set_cons_succ]
            refine gY (i := 3) (x := 150) (v := .pointer (some ⟨bt + 1, 0, none⟩)) rfl (by kernel_rfl) (by kernel_rfl) (by kernel_rfl) (fun _ _ _ h => h) (by rfl) (by intro w' k; go_simp) ?_
            simp only [Act.put, List.setIfInBounds_toArray, List.set_cons_zero, List.set_cons_succ]
            refine gY (i := 4) (x := 151) (v := .int .i64 (q : Int)) rfl (by kernel_rfl) (by kernel_rfl) (by kernel_rfl) (fun _ _ _ h => h) (by rfl) (by intro w' k; go_simp) ?_
            simp only [Act.put, List.setIfInBounds_toArray, List.set_cons_zero, List.set_cons_succ]
            refine gY (i := 5) (x := 152) (v := .pointer (some ⟨bt + 1, 0, none⟩)) rfl (by kernel_rfl) (by kernel_rfl) (by kernel_rfl) (fun _ _ _ h => h) (by rfl) (by intro w' k; go_simp) ?_
            simp only [Act.put, List.setIfInBounds_toArray, List.set_cons_zero, List.set_cons_succ]
            refine gY (i := 6) (x := 153) (v := .pointer (some ⟨bt + 1, 102, none⟩)) rfl (by kernel_rfl) (by kernel_rfl) (by kernel_rfl) (fun _ _ _ h => h) (by rfl) (by intro w' k; go_simp) ?_
            simp only [Act.put, List.setIfInBounds_toArray, List.set_cons_zero, List.set_cons_succ]
            refine gY (i := 7) (x := 154) (v := .pointer (some ⟨bt + 1, 102 + q, none⟩)) rfl (by kernel_rfl) (by kernel_rfl) (by kernel_rfl) (fun _ _ _ h => h) (by rfl) (by intro w' k; go_simp) ?_
            simp only [Act.put, List.setIfInBounds_toArray, List.set_cons_zero, List.set_cons_succ]
            refine gY (i := 8) (x := 155) (v := .bool false) rfl (by kernel_rfl) (by kernel_rfl) (by kernel_rfl) (fun _ _ _ h => h) (by rfl) (by intro w' k; have hq := HTH.out w' (HGA.out.trans k); clear k; go_simp) ?_
            simp only [Act.put, List.setIfInBounds_toArray, List.set_cons_zero, List.set_cons_succ]
            refine gY (i := 9) (x := 156) (v := .bool false) rfl (by kernel_rfl) (by kernel_rfl) (by kernel_rfl) (fun _ _ _ h => h) (by rfl) (by intro w' k; go_simp) ?_
            simp only [Act.put, List.setIfInBounds_toArray, List.set_cons_zero, List.set_cons_succ]
            refine gY (i := 10) (x := 157) (v := .bool false) rfl (by kernel_rfl) (by kernel_rfl) (by kernel_rfl) (fun _ _ _ h => h) (by rfl) (by intro w' k; go_simp) ?_
            simp only [Act.put, List.setIfInBounds_toArray, List.set_cons_zero, List.set_cons_succ]
            refine gY (i := 11) (x := 158) (v := .bool false) rfl (by kernel_rfl) (by kernel_rfl) (by kernel_rfl) (fun _ _ _ h => h) (by rfl) (by intro w' k; go_simp) ?_
            simp only [Act.put, List.setIfInBounds_toArray, List.set_cons_zero, List.set_cons_succ]
            refine gY (i := 12) (x := 159) (v := .bool false) rfl (by kernel_rfl) (by kernel_rfl) (by kernel_rfl) (fun _ _ _ h => h) (by rfl) (by intro w' k; go_simp) ?_
            simp only [Act.put, List.setIfInBounds_toArray, List.set_cons_zero, List.set_cons_succ]
            refine gY (i := 13) (x := 160) (v := .bool false) rfl (by kernel_rfl) (by kernel_rfl) (by kernel_rfl) (fun _ _ _ h => h) (by rfl) (by intro w' k; go_simp) ?_
            simp only [Act.put, List.setIfInBounds_toArray, List.set_cons_zero, List.set_cons_succ]
            refine gN (i := 14) (x := 161) rfl (by kernel_rfl) (by kernel_rfl) (by kernel_rfl) (fun _ _ _ h => h) (by rfl) ?_
            simp only [Act.put, List.setIfInBounds_toArray, List.set_cons_zero, List.set_cons_succ]
            refine gN (i := 15) (x := 162) rfl (by kernel_rfl) (by kernel_rfl) (by kernel_rfl) (fun _ _ _ h => h) (by rfl) ?_
            simp only [Act.put, List.setIfInBounds_toArray, List.set_cons_zero, List.set_cons_succ]
            refine gN (i := 16) (x := 163) rfl (by kernel_rfl) (by kernel_rfl) (by kernel_rfl) (fun _ _ _ h => h) (by rfl) ?_
            simp only [Act.put, List.setIfInBounds_toArray, List.set_cons_zero, List.set_cons_succ]
            refine gN (i := 17) (x := 164) rfl (by kernel_rfl) (by kernel_rfl) (by kernel_rfl) (fun _ _ _ h => h) (by rfl) ?_
            simp only [Act.put, List.setIfInBounds_toArray, List.set_cons_zero, List.set_cons_succ]
            refine gN (i := 18) (x := 165) rfl (by kernel_rfl) (by kernel_rfl) (by kernel_rfl) (fun _ _ _ h => h) (by rfl) ?_
            simp only [Act.put, List.setIfInBounds_toArray, List.set_cons_zero, List.set_cons_succ]
            refine gN (i := 19) (x := 166) rfl (by kernel_rfl) (by kernel_rfl) (by kernel_rfl) (fun _ _ _ h => h) (by rfl) ?_
            simp only [Act.put, List.setIfInBounds_toArray, List.set_cons_zero, List.set_cons_succ]
            refine gN (i := 20) (x := 167) rfl (by kernel_rfl) (by kernel_rfl) (by kernel_rfl) (fun _ _ _ h => h) (by rfl) ?_
            simp only [Act.put, List.setIfInBounds_toArray, List.set_cons_zero, List.set_cons_succ]
            refine gN (i := 21) (x := 168) rfl (by kernel_rfl) (by kernel_rfl) (by kernel_rfl) (fun _ _ _ h => h) (by rfl) ?_
            simp only [Act.put, List.setIfInBounds_toArray, List.set_cons_zero, List.set_cons_succ]
            refine gN (i := 22) (x := 169) rfl (by kernel_rfl) (by kernel_rfl) (by kernel_rfl) (fun _ _ _ h => h) (by rfl) ?_
            simp only [Act.put, List.setIfInBounds_toArray, List.set_cons_zero, List.set_cons_succ]
            refine gY (i := 23) (x := 170) (v := .bool false) rfl (by kernel_rfl) (by kernel_rfl) (by kernel_rfl) (fun _ _ _ h => h) (by rfl) (by intro w' k; go_simp) ?_
            simp only [Act.put, List.setIfInBounds_toArray, List.set_cons_zero, List.set_cons_succ]
            refine gY (i := 24) (x := 171) (v := .bool false) rfl (by kernel_rfl) (by kernel_rfl) (by kernel_rfl) (fun _ _ _ h => h) (by rfl) (by intro w' k; go_simp) ?_
            simp only [Act.put, List.setIfInBounds_toArray, List.set_cons_zero, List.set_cons_succ]
            refine gY (i := 25) (x := 172) (v := .bool false) rfl (by kernel_rfl) (by kernel_rfl) (by kernel_rfl) (fun _ _ _ h => h) (by rfl) (by intro w' k; go_simp) ?_
            simp only [Act.put, List.setIfInBounds_toArray, List.set_cons_zero, List.set_cons_succ]
            refine gY (i := 26) (x := 173) (v := .bool true) rfl (by kernel_rfl) (by kernel_rfl) (by kernel_rfl) (fun _ _ _ h => h) (by rfl) (by intro w' k; go_simp) ?_
            simp only [Act.put, List.setIfInBounds_toArray, List.set_cons_zero, List.set_cons_succ]
            refine gY (i := 27) (x := 174) (v := .bool true) rfl (by kernel_rfl) (by kernel_rfl) (by kernel_rfl) (fun _ _ _ h => h) (by rfl) (by intro w' k; go_simp) ?_
            simp only [Act.put, List.setIfInBounds_toArray, List.set_cons_zero, List.set_cons_succ]
            refine gY (i := 28) (x := 175) (v := .pointer (some ⟨bt, 0, none⟩)) rfl (by kernel_rfl) (by kernel_rfl) (by kernel_rfl) (fun _ _ _ h => h) (by rfl) (by intro w' k; go_simp) ?_
            simp only [Act.put, List.setIfInBounds_toArray, List.set_cons_zero, List.set_cons_succ]
            refine gY (i := 29) (x := 176) (v := .int .i64 (q : Int)) rfl (by kernel_rfl) (by kernel_rfl) (by kernel_rfl) (fun _ _ _ h => h) (by rfl) (by intro w' k; go_simp) ?_
            simp only [Act.put, List.setIfInBounds_toArray, List.set_cons_zero, List.set_cons_succ]
            refine gC (i := 30) (x := 177) (v := .int .i64 ep) 12 #[.pointer (some ⟨bt, 0, none⟩), .int .i64 (q : Int)] rfl (by kernel_rfl) (by kernel_rfl) (by kernel_rfl) (fun _ _ _ h => h) (by rfl) (by intro w'; go_simp) (fun w' k => (HE2.out w' (HGA.out.trans k)).mono (by rintro e w2 ⟨rfl, rfl⟩; exact ⟨rfl, Gro.refl _ _⟩)) ?_
            simp only [Act.put, List.setIfInBounds_toArray, List.set_cons_zero, List.set_cons_succ]
            refine gY (i := 31) (x := 178) (v := .pointer (some ⟨bt + 1, 0, none⟩)) rfl (by kernel_rfl) (by kernel_rfl) (by kernel_rfl) (fun _ _ _ h => h) (by rfl) (by intro w' k; go_simp) ?_
            simp only [Act.put, List.setIfInBounds_toArray, List.set_cons_zero, List.set_cons_succ]
            refine gY (i := 32) (x := 179) (v := .int .i64 (q : Int)) rfl (by kernel_rfl) (by kernel_rfl) (by kernel_rfl) (fun _ _ _ h => h) (by rfl) (by intro w' k; go_simp) ?_
            simp only [Act.put, List.setIfInBounds_toArray, List.set_cons_zero, List.set_cons_succ]
            refine gY (i := 33) (x := 180) (v := .pointer (some ⟨bt + 1, 0, none⟩)) rfl (by kernel_rfl) (by kernel_rfl) (by kernel_rfl) (fun _ _ _ h => h) (by rfl) (by intro w' k; go_simp) ?_
            simp only [Act.put, List.setIfInBounds_toArray, List.set_cons_zero, List.set_cons_succ]
            refine gY (i := 34) (x := 181) (v := .pointer (some ⟨bt + 1, 119, none⟩)) rfl (by kernel_rfl) (by kernel_rfl) (by kernel_rfl) (fun _ _ _ h => h) (by rfl) (by intro w' k; go_simp) ?_
            simp only [Act.put, List.setIfInBounds_toArray, List.set_cons_zero, List.set_cons_succ]
            refine gY (i := 35) (x := 182) (v := .pointer (some ⟨bt + 1, 119 + q, none⟩)) rfl (by kernel_rfl) (by kernel_rfl) (by kernel_rfl) (fun _ _ _ h => h) (by rfl) (by intro w' k; go_simp) ?_
            simp only [Act.put, List.setIfInBounds_toArray, List.set_cons_zero, List.set_cons_succ]
            refine gY (i := 36) (x := 183) (v := .int .i64 ep) rfl (by kernel_rfl) (by kernel_rfl) (by kernel_rfl) (fun _ _ _ h => h) (by rfl) (by intro w' k; have hq := HEC.out w' (HGA.out.trans k); clear k; go_simp) ?_
            simp only [Act.put, List.setIfInBounds_toArray, List.set_cons_zero, List.set_cons_succ]
            refine gY (i := 37) (x := 184) (v := .bool false) rfl (by kernel_rfl) (by kernel_rfl) (by kernel_rfl) (fun _ _ _ h => h) (by rfl) (by intro w' k; go_simp) ?_
            simp only [Act.put, List.setIfInBounds_toArray, List.set_cons_zero, List.set_cons_succ]
            refine gY (i := 38) (x := 185) (v := .bool false) rfl (by kernel_rfl) (by kernel_rfl) (by kernel_rfl) (fun _ _ _ h => h) (by rfl) (by intro w' k; go_simp) ?_
            simp only [Act.put, List.setIfInBounds_toArray, List.set_cons_zero, List.set_cons_succ]
            refine gY (i := 39) (x := 186) (v := .bool false) rfl (by kernel_rfl) (by kernel_rfl) (by kernel_rfl) (fun _ _ _ h => h) (by rfl) (by intro w' k; go_simp) ?_
            simp only [Act.put, List.setIfInBounds_toArray, List.set_cons_zero, List.set_cons_succ]
            refine gY (i := 40) (x := 187) (v := .bool false) rfl (by kernel_rfl) (by kernel_rfl) (by kernel_rfl) (fun _ _ _ h => h) (by rfl) (by intro w' k; go_simp) ?_
            simp only [Act.put, List.setIfInBounds_toArray, List.set_cons_zero, List.set_cons_succ]
            refine gY (i := 41) (x := 188) (v := .bool true) rfl (by kernel_rfl) (by kernel_rfl) (by kernel_rfl) (fun _ _ _ h => h) (by rfl) (by intro w' k; go_simp) ?_
            simp only [Act.put, List.setIfInBounds_toArray, List.set_cons_zero, List.set_cons_succ]
            refine gY (i := 42) (x := 189) (v := .bool false) rfl (by kernel_rfl) (by kernel_rfl) (by kernel_rfl) (fun _ _ _ h => h) (by rfl) (by intro w' k; go_simp) ?_
            simp only [Act.put, List.setIfInBounds_toArray, List.set_cons_zero, List.set_cons_succ]
            refine gY (i := 43) (x := 190) (v := .bool false) rfl (by kernel_rfl) (by kernel_rfl) (by kernel_rfl) (fun _ _ _ h => h) (by rfl) (by intro w' k; go_simp) ?_
            simp only [Act.put, List.setIfInBounds_toArray, List.set_cons_zero, List.set_cons_succ]
            refine gN (i := 44) (x := 191) rfl (by kernel_rfl) (by kernel_rfl) (by kernel_rfl) (fun _ _ _ h => h) (by rfl) ?_
            simp only [Act.put, List.setIfInBounds_toArray, List.set_cons_zero, List.set_cons_succ]
            refine gN (i := 45) (x := 192) rfl (by kernel_rfl) (by kernel_rfl) (by kernel_rfl) (fun _ _ _ h => h) (by rfl) ?_
            simp only [Act.put, List.setIfInBounds_toArray, List.set_cons_zero, List.set_cons_succ]
            refine gN (i := 46) (x := 193) rfl (by kernel_rfl) (by kernel_rfl) (by kernel_rfl) (fun _ _ _ h => h) (by rfl) ?_
            simp only [Act.put, List.setIfInBounds_toArray, List.set_cons_zero, List.set_cons_succ]
            refine gN (i := 47) (x := 194) rfl (by kernel_rfl) (by kernel_rfl) (by kernel_rfl) (fun _ _ _ h => h) (by rfl) ?_
            simp only [Act.put, List.setIfInBounds_toArray, List.set_cons_zero, List.set_cons_succ]
            refine gY (i := 48) (x := 195) (v := .bool false) rfl (by kernel_rfl) (by kernel_rfl) (by kernel_rfl) (fun _ _ _ h => h) (by rfl) (by intro w' k; go_simp) ?_
            simp only [Act.put, List.setIfInBounds_toArray, List.set_cons_zero, List.set_cons_succ]
            refine gY (i := 49) (x := 196) (v := .bool false) rfl (by kernel_rfl) (by kernel_rfl) (by kernel_rfl) (fun _ _ _ h => h) (by rfl) (by intro w' k; go_simp) ?_
            simp only [Act.put, List.setIfInBounds_toArray, List.set_cons_zero, List.set_cons_succ]
            refine gDone (by kernel_rfl) fun w8 hg8 => ?_
            have HG8 := Lib.hid (HGQ.out.trans (HGA.out.trans hg8))
            clear hg8 HBR HGA
            go_wp2_with fail
            go_roundw
            case rel => exact ⟨q + 1, by omega, by go_num, HG8.out⟩
            case measure => simp [intOf]; omega
      case neg =>
        have HAD := Lib.hid (addr_none bt (q : Int) wr T' HT9.out (fun j hj' h => absurd h (by omega)))
        have HE2 := Lib.hid (fun w' (h : Gro none wr w') => epoch_out (.pointer (some ⟨bt, 0, none⟩)) (q : Int) w' (by omega))
        unfold adV adZ at HAD
        clear HT9 HD9
        by_cases h0 : q = 0
        case pos =>
          have i1 : (q : Int) < 1 := by omega
          clear h0 hin
          skip
          as_aux_lemma =>
            go_wp2_with fail
            refine HAD.out.mono ?_
            rintro e w5 ⟨rfl, hg5⟩
            have HG5 := Lib.hid hg5
            clear hg5 HAD
            go_wp2_with (refine alloc_row rfl 25 rfl 19 rfl #[.int .u8 0, .int .u8 0, .int .u8 0, .int .u8 0, .int .u8 0, .int .u8 0] 25 addr_run rfl (.tmp 139) rfl (by first | (simp; done) | (simp [Act.put]; done)) #[.int .u8 0, .int .u8 0, .int .u8 0, .int .u8 0, .int .u8 0, .int .u8 0] (by rfl) rfl (by kernel_rfl) (by simp [Value.oneCell']) ?_)
            intro w7 hg7 hr7
            have HGA := Lib.hid (HG5.out.trans hg7)
            generalize w5.heap.size = B at *
            have HBR := Lib.hid (fun w' (h : Gro none w7 w') => (h.block B (blk_in hr7) (by simp)).trans hr7)
            clear hg7 hr7 HG5
            go_wp2_with fail
            refine wp_region_G (by kernel_rfl) ?_
            refine gY (i := 0) (x := 147) (v := .bool false) rfl (by kernel_rfl) (by kernel_rfl) (by kernel_rfl) (fun _ _ _ h => h) (by rfl) (by intro w' k; go_simp) ?_
            simp only [Act.put, List.setIfInBounds_toArray, List.set_cons_zero, List.set_cons_succ]
            refine gY (i := 1) (x := 148) (v := .bool false) rfl (by kernel_rfl) (by kernel_rfl) (by kernel_rfl) (fun _ _ _ h => h) (by rfl) (by intro w' k; go_simp) ?_
            simp only [Act.put, List.setIfInBounds_toArray, List.set_cons_zero, List.set_cons_succ]
            refine gY (i := 2) (x := 149) (v := .bool false) rfl (by kernel_rfl) (by kernel_rfl) (by kernel_rfl) (fun _ _ _ h => h) (by rfl) (by intro w' k; go_simp) ?_
            simp only [Act.put, List.setIfInBounds_toArray, List.set_cons_zero, List.set_cons_succ]
            refine gN (i := 3) (x := 150) rfl (by kernel_rfl) (by kernel_rfl) (by kernel_rfl) (fun _ _ _ h => h) (by rfl) ?_
            simp only [Act.put, List.setIfInBounds_toArray, List.set_cons_zero, List.set_cons_succ]
            refine gN (i := 4) (x := 151) rfl (by kernel_rfl) (by kernel_rfl) (by kernel_rfl) (fun _ _ _ h => h) (by rfl) ?_
            simp only [Act.put, List.setIfInBounds_toArray, List.set_cons_zero, List.set_cons_succ]
            refine gN (i := 5) (x := 152) rfl (by kernel_rfl) (by kernel_rfl) (by kernel_rfl) (fun _ _ _ h => h) (by rfl) ?_
            simp only [Act.put, List.setIfInBounds_toArray, List.set_cons_zero, List.set_cons_succ]
            refine gN (i := 6) (x := 153) rfl (by kernel_rfl) (by kernel_rfl) (by kernel_rfl) (fun _ _ _ h => h) (by rfl) ?_
            simp only [Act.put, List.setIfInBounds_toArray, List.set_cons_zero, List.set_cons_succ]
            refine gN (i := 7) (x := 154) rfl (by kernel_rfl) (by kernel_rfl) (by kernel_rfl) (fun _ _ _ h => h) (by rfl) ?_
            simp only [Act.put, List.setIfInBounds_toArray, List.set_cons_zero, List.set_cons_succ]
            refine gN (i := 8) (x := 155) rfl (by kernel_rfl) (by kernel_rfl) (by kernel_rfl) (fun _ _ _ h => h) (by rfl) ?_
            simp only [Act.put, List.setIfInBounds_toArray, List.set_cons_zero, List.set_cons_succ]
            refine gY (i := 9) (x := 156) (v := .bool false) rfl (by kernel_rfl) (by kernel_rfl) (by kernel_rfl) (fun _ _ _ h => h) (by rfl) (by intro w' k; go_simp) ?_
            simp only [Act.put, List.setIfInBounds_toArray, List.set_cons_zero, List.set_cons_succ]
            refine gY (i := 10) (x := 157) (v := .bool false) rfl (by kernel_rfl) (by kernel_rfl) (by kernel_rfl) (fun _ _ _ h => h) (by rfl) (by intro w' k; go_simp) ?_
            simp only [Act.put, List.setIfInBounds_toArray, List.set_cons_zero, List.set_cons_succ]
            refine gY (i := 11) (x := 158) (v := .bool false) rfl (by kernel_rfl) (by kernel_rfl) (by kernel_rfl) (fun _ _ _ h => h) (by rfl) (by intro w' k; go_simp) ?_
            simp only [Act.put, List.setIfInBounds_toArray, List.set_cons_zero, List.set_cons_succ]
            refine gY (i := 12) (x := 159) (v := .bool false) rfl (by kernel_rfl) (by kernel_rfl) (by kernel_rfl) (fun _ _ _ h => h) (by rfl) (by intro w' k; go_simp) ?_
            simp only [Act.put, List.setIfInBounds_toArray, List.set_cons_zero, List.set_cons_succ]
            refine gY (i := 13) (x := 160) (v := .bool false) rfl (by kernel_rfl) (by kernel_rfl) (by kernel_rfl) (fun _ _ _ h => h) (by rfl) (by intro w' k; go_simp) ?_
            simp only [Act.put, List.setIfInBounds_toArray, List.set_cons_zero, List.set_cons_succ]
            refine gN (i := 14) (x := 161) rfl (by kernel_rfl) (by kernel_rfl) (by kernel_rfl) (fun _ _ _ h => h) (by rfl) ?_
            simp only [Act.put, List.setIfInBounds_toArray, List.set_cons_zero, List.set_cons_succ]
            refine gN (i := 15) (x := 162) rfl (by kernel_rfl) (by kernel_rfl) (by kernel_rfl) (fun _ _ _ h => h) (by rfl) ?_
            simp only [Act.put, List.setIfInBounds_toArray, List.set_cons_zero, List.set_cons_succ]
            refine gN (i := 16) (x := 163) rfl (by kernel_rfl) (by kernel_rfl) (by kernel_rfl) (fun _ _ _ h => h) (by rfl) ?_
            simp only [Act.put, List.setIfInBounds_toArray, List.set_cons_zero, List.set_cons_succ]
            refine gN (i := 17) (x := 164) rfl (by kernel_rfl) (by kernel_rfl) (by kernel_rfl) (fun _ _ _ h => h) (by rfl) ?_
            simp only [Act.put, List.setIfInBounds_toArray, List.set_cons_zero, List.set_cons_succ]
            refine gN (i := 18) (x := 165) rfl (by kernel_rfl) (by kernel_rfl) (by kernel_rfl) (fun _ _ _ h => h) (by rfl) ?_
            simp only [Act.put, List.setIfInBounds_toArray, List.set_cons_zero, List.set_cons_succ]
            refine gN (i := 19) (x := 166) rfl (by kernel_rfl) (by kernel_rfl) (by kernel_rfl) (fun _ _ _ h => h) (by rfl) ?_
            simp only [Act.put, List.setIfInBounds_toArray, List.set_cons_zero, List.set_cons_succ]
            refine gN (i := 20) (x := 167) rfl (by kernel_rfl) (by kernel_rfl) (by kernel_rfl) (fun _ _ _ h => h) (by rfl) ?_
            simp only [Act.put, List.setIfInBounds_toArray, List.set_cons_zero, List.set_cons_succ]
            refine gN (i := 21) (x := 168) rfl (by kernel_rfl) (by kernel_rfl) (by kernel_rfl) (fun _ _ _ h => h) (by rfl) ?_
            simp only [Act.put, List.setIfInBounds_toArray, List.set_cons_zero, List.set_cons_succ]
            refine gN (i := 22) (x := 169) rfl (by kernel_rfl) (by kernel_rfl) (by kernel_rfl) (fun _ _ _ h => h) (by rfl) ?_
            simp only [Act.put, List.setIfInBounds_toArray, List.set_cons_zero, List.set_cons_succ]
            refine gY (i := 23) (x := 170) (v := .bool false) rfl (by kernel_rfl) (by kernel_rfl) (by kernel_rfl) (fun _ _ _ h => h) (by rfl) (by intro w' k; go_simp) ?_
            simp only [Act.put, List.setIfInBounds_toArray, List.set_cons_zero, List.set_cons_succ]
            refine gY (i := 24) (x := 171) (v := .bool false) rfl (by kernel_rfl) (by kernel_rfl) (by kernel_rfl) (fun _ _ _ h => h) (by rfl) (by intro w' k; go_simp) ?_
            simp only [Act.put, List.setIfInBounds_toArray, List.set_cons_zero, List.set_cons_succ]
            refine gY (i := 25) (x := 172) (v := .bool false) rfl (by kernel_rfl) (by kernel_rfl) (by kernel_rfl) (fun _ _ _ h => h) (by rfl) (by intro w' k; go_simp) ?_
            simp only [Act.put, List.setIfInBounds_toArray, List.set_cons_zero, List.set_cons_succ]
            refine gY (i := 26) (x := 173) (v := .bool false) rfl (by kernel_rfl) (by kernel_rfl) (by kernel_rfl) (fun _ _ _ h => h) (by rfl) (by intro w' k; go_simp) ?_
            simp only [Act.put, List.setIfInBounds_toArray, List.set_cons_zero, List.set_cons_succ]
            refine gY (i := 27) (x := 174) (v := .bool false) rfl (by kernel_rfl) (by kernel_rfl) (by kernel_rfl) (fun _ _ _ h => h) (by rfl) (by intro w' k; go_simp) ?_
            simp only [Act.put, List.setIfInBounds_toArray, List.set_cons_zero, List.set_cons_succ]
            refine gN (i := 28) (x := 175) rfl (by kernel_rfl) (by kernel_rfl) (by kernel_rfl) (fun _ _ _ h => h) (by rfl) ?_
            simp only [Act.put, List.setIfInBounds_toArray, List.set_cons_zero, List.set_cons_succ]
            refine gN (i := 29) (x := 176) rfl (by kernel_rfl) (by kernel_rfl) (by kernel_rfl) (fun _ _ _ h => h) (by rfl) ?_
            simp only [Act.put, List.setIfInBounds_toArray, List.set_cons_zero, List.set_cons_succ]
            refine gN (i := 30) (x := 177) rfl (by kernel_rfl) (by kernel_rfl) (by kernel_rfl) (fun _ _ _ h => h) (by rfl) ?_
            simp only [Act.put, List.setIfInBounds_toArray, List.set_cons_zero, List.set_cons_succ]
            refine gN (i := 31) (x := 178) rfl (by kernel_rfl) (by kernel_rfl) (by kernel_rfl) (fun _ _ _ h => h) (by rfl) ?_
            simp only [Act.put, List.setIfInBounds_toArray, List.set_cons_zero, List.set_cons_succ]
            refine gN (i := 32) (x := 179) rfl (by kernel_rfl) (by kernel_rfl) (by kernel_rfl) (fun _ _ _ h => h) (by rfl) ?_
            simp only [Act.put, List.setIfInBounds_toArray, List.set_cons_zero, List.set_cons_succ]
            refine gN (i := 33) (x := 180) rfl (by kernel_rfl) (by kernel_rfl) (by kernel_rfl) (fun _ _ _ h => h) (by rfl) ?_
            simp only [Act.put, List.setIfInBounds_toArray, List.set_cons_zero, List.set_cons_succ]
            refine gN (i := 34) (x := 181) rfl (by kernel_rfl) (by kernel_rfl) (by kernel_rfl) (fun _ _ _ h => h) (by rfl) ?_
            simp only [Act.put, List.setIfInBounds_toArray, List.set_cons_zero, List.set_cons_succ]
            refine gN (i := 35) (x := 182) rfl (by kernel_rfl) (by kernel_rfl) (by kernel_rfl) (fun _ _ _ h => h) (by rfl) ?_
            simp only [Act.put, List.setIfInBounds_toArray, List.set_cons_zero, List.set_cons_succ]
            refine gN (i := 36) (x := 183) rfl (by kernel_rfl) (by kernel_rfl) (by kernel_rfl) (fun _ _ _ h => h) (by rfl) ?_
            simp only [Act.put, List.setIfInBounds_toArray, List.set_cons_zero, List.set_cons_succ]
            refine gN (i := 37) (x := 184) rfl (by kernel_rfl) (by kernel_rfl) (by kernel_rfl) (fun _ _ _ h => h) (by rfl) ?_
            simp only [Act.put, List.setIfInBounds_toArray, List.set_cons_zero, List.set_cons_succ]
            refine gY (i := 38) (x := 185) (v := .bool false) rfl (by kernel_rfl) (by kernel_rfl) (by kernel_rfl) (fun _ _ _ h => h) (by rfl) (by intro w' k; go_simp) ?_
            simp only [Act.put, List.setIfInBounds_toArray, List.set_cons_zero, List.set_cons_succ]
            refine gY (i := 39) (x := 186) (v := .bool false) rfl (by kernel_rfl) (by kernel_rfl) (by kernel_rfl) (fun _ _ _ h => h) (by rfl) (by intro w' k; go_simp) ?_
            simp only [Act.put, List.setIfInBounds_toArray, List.set_cons_zero, List.set_cons_succ]
            refine gY (i := 40) (x := 187) (v := .bool false) rfl (by kernel_rfl) (by kernel_rfl) (by kernel_rfl) (fun _ _ _ h => h) (by rfl) (by intro w' k; go_simp) ?_
            simp only [Act.put, List.setIfInBounds_toArray, List.set_cons_zero, List.set_cons_succ]
            refine gY (i := 41) (x := 188) (v := .bool false) rfl (by kernel_rfl) (by kernel_rfl) (by kernel_rfl) (fun _ _ _ h => h) (by rfl) (by intro w' k; go_simp) ?_
            simp only [Act.put, List.setIfInBounds_toArray, List.set_cons_zero, List.set_cons_succ]
            refine gY (i := 42) (x := 189) (v := .bool true) rfl (by kernel_rfl) (by kernel_rfl) (by kernel_rfl) (fun _ _ _ h => h) (by rfl) (by intro w' k; go_simp) ?_
            simp only [Act.put, List.setIfInBounds_toArray, List.set_cons_zero, List.set_cons_succ]
            refine gY (i := 43) (x := 190) (v := .bool true) rfl (by kernel_rfl) (by kernel_rfl) (by kernel_rfl) (fun _ _ _ h => h) (by rfl) (by intro w' k; go_simp) ?_
            simp only [Act.put, List.setIfInBounds_toArray, List.set_cons_zero, List.set_cons_succ]
            refine gY (i := 44) (x := 191) (v := .pointer (some ⟨bt, 0, none⟩)) rfl (by kernel_rfl) (by kernel_rfl) (by kernel_rfl) (fun _ _ _ h => h) (by rfl) (by intro w' k; go_simp) ?_
            simp only [Act.put, List.setIfInBounds_toArray, List.set_cons_zero, List.set_cons_succ]
            refine gY (i := 45) (x := 192) (v := .int .i64 (q : Int)) rfl (by kernel_rfl) (by kernel_rfl) (by kernel_rfl) (fun _ _ _ h => h) (by rfl) (by intro w' k; go_simp) ?_
            simp only [Act.put, List.setIfInBounds_toArray, List.set_cons_zero, List.set_cons_succ]
            refine gC (i := 46) (x := 193) (v := .int .i64 0) 12 #[.pointer (some ⟨bt, 0, none⟩), .int .i64 (q : Int)] rfl (by kernel_rfl) (by kernel_rfl) (by kernel_rfl) (fun _ _ _ h => h) (by rfl) (by intro w'; go_simp) (fun w' k => (HE2.out w' (HGA.out.trans k)).mono (by rintro e w2 ⟨rfl, rfl⟩; exact ⟨rfl, Gro.refl _ _⟩)) ?_
            simp only [Act.put, List.setIfInBounds_toArray, List.set_cons_zero, List.set_cons_succ]
            refine gY (i := 47) (x := 194) (v := .bool false) rfl (by kernel_rfl) (by kernel_rfl) (by kernel_rfl) (fun _ _ _ h => h) (by rfl) (by intro w' k; go_simp) ?_
            simp only [Act.put, List.setIfInBounds_toArray, List.set_cons_zero, List.set_cons_succ]
            refine gY (i := 48) (x := 195) (v := .bool false) rfl (by kernel_rfl) (by kernel_rfl) (by kernel_rfl) (fun _ _ _ h => h) (by rfl) (by intro w' k; go_simp) ?_
            simp only [Act.put, List.setIfInBounds_toArray, List.set_cons_zero, List.set_cons_succ]
            refine gY (i := 49) (x := 196) (v := .bool false) rfl (by kernel_rfl) (by kernel_rfl) (by kernel_rfl) (fun _ _ _ h => h) (by rfl) (by intro w' k; go_simp) ?_
            simp only [Act.put, List.setIfInBounds_toArray, List.set_cons_zero, List.set_cons_succ]
            refine gDone (by kernel_rfl) fun w8 hg8 => ?_
            have HG8 := Lib.hid (HGQ.out.trans (HGA.out.trans hg8))
            clear hg8 HBR HGA
            go_wp2_with fail
            go_roundw
            case rel => exact ⟨q + 1, by omega, by go_num, HG8.out⟩
            case measure => simp [intOf]; omega
        case neg =>
          have i1 : (1 : Int) ≤ (q : Int) := by omega
          have i2 : (16 : Int) < (q : Int) := by omega
          clear h0 hin
          skip
          as_aux_lemma =>
            go_wp2_with fail
            refine HAD.out.mono ?_
            rintro e w5 ⟨rfl, hg5⟩
            have HG5 := Lib.hid hg5
            clear hg5 HAD
            go_wp2_with (refine alloc_row rfl 25 rfl 19 rfl #[.int .u8 0, .int .u8 0, .int .u8 0, .int .u8 0, .int .u8 0, .int .u8 0] 25 addr_run rfl (.tmp 139) rfl (by first | (simp; done) | (simp [Act.put]; done)) #[.int .u8 0, .int .u8 0, .int .u8 0, .int .u8 0, .int .u8 0, .int .u8 0] (by rfl) rfl (by kernel_rfl) (by simp [Value.oneCell']) ?_)
            intro w7 hg7 hr7
            have HGA := Lib.hid (HG5.out.trans hg7)
            generalize w5.heap.size = B at *
            have HBR := Lib.hid (fun w' (h : Gro none w7 w') => (h.block B (blk_in hr7) (by simp)).trans hr7)
            clear hg7 hr7 HG5
            go_wp2_with fail
            refine wp_region_G (by kernel_rfl) ?_
            refine gY (i := 0) (x := 147) (v := .bool false) rfl (by kernel_rfl) (by kernel_rfl) (by kernel_rfl) (fun _ _ _ h => h) (by rfl) (by intro w' k; go_simp) ?_
            simp only [Act.put, List.setIfInBounds_toArray, List.set_cons_zero, List.set_cons_succ]
            refine gY (i := 1) (x := 148) (v := .bool false) rfl (by kernel_rfl) (by kernel_rfl) (by kernel_rfl) (fun _ _ _ h => h) (by rfl) (by intro w' k; go_simp) ?_
            simp only [Act.put, List.setIfInBounds_toArray, List.set_cons_zero, List.set_cons_succ]
            refine gY (i := 2) (x := 149) (v := .bool false) rfl (by kernel_rfl) (by kernel_rfl) (by kernel_rfl) (fun _ _ _ h => h) (by rfl) (by intro w' k; go_simp) ?_
            simp only [Act.put, List.setIfInBounds_toArray, List.set_cons_zero, List.set_cons_succ]
            refine gN (i := 3) (x := 150) rfl (by kernel_rfl) (by kernel_rfl) (by kernel_rfl) (fun _ _ _ h => h) (by rfl) ?_
            simp only [Act.put, List.setIfInBounds_toArray, List.set_cons_zero, List.set_cons_succ]
            refine gN (i := 4) (x := 151) rfl (by kernel_rfl) (by kernel_rfl) (by kernel_rfl) (fun _ _ _ h => h) (by rfl) ?_
            simp only [Act.put, List.setIfInBounds_toArray, List.set_cons_zero, List.set_cons_succ]
            refine gN (i := 5) (x := 152) rfl (by kernel_rfl) (by kernel_rfl) (by kernel_rfl) (fun _ _ _ h => h) (by rfl) ?_
            simp only [Act.put, List.setIfInBounds_toArray, List.set_cons_zero, List.set_cons_succ]
            refine gN (i := 6) (x := 153) rfl (by kernel_rfl) (by kernel_rfl) (by kernel_rfl) (fun _ _ _ h => h) (by rfl) ?_
            simp only [Act.put, List.setIfInBounds_toArray, List.set_cons_zero, List.set_cons_succ]
            refine gN (i := 7) (x := 154) rfl (by kernel_rfl) (by kernel_rfl) (by kernel_rfl) (fun _ _ _ h => h) (by rfl) ?_
            simp only [Act.put, List.setIfInBounds_toArray, List.set_cons_zero, List.set_cons_succ]
            refine gN (i := 8) (x := 155) rfl (by kernel_rfl) (by kernel_rfl) (by kernel_rfl) (fun _ _ _ h => h) (by rfl) ?_
            simp only [Act.put, List.setIfInBounds_toArray, List.set_cons_zero, List.set_cons_succ]
            refine gY (i := 9) (x := 156) (v := .bool false) rfl (by kernel_rfl) (by kernel_rfl) (by kernel_rfl) (fun _ _ _ h => h) (by rfl) (by intro w' k; go_simp) ?_
            simp only [Act.put, List.setIfInBounds_toArray, List.set_cons_zero, List.set_cons_succ]
            refine gY (i := 10) (x := 157) (v := .bool false) rfl (by kernel_rfl) (by kernel_rfl) (by kernel_rfl) (fun _ _ _ h => h) (by rfl) (by intro w' k; go_simp) ?_
            simp only [Act.put, List.setIfInBounds_toArray, List.set_cons_zero, List.set_cons_succ]
            refine gY (i := 11) (x := 158) (v := .bool false) rfl (by kernel_rfl) (by kernel_rfl) (by kernel_rfl) (fun _ _ _ h => h) (by rfl) (by intro w' k; go_simp) ?_
            simp only [Act.put, List.setIfInBounds_toArray, List.set_cons_zero, List.set_cons_succ]
            refine gY (i := 12) (x := 159) (v := .bool false) rfl (by kernel_rfl) (by kernel_rfl) (by kernel_rfl) (fun _ _ _ h => h) (by rfl) (by intro w' k; go_simp) ?_
            simp only [Act.put, List.setIfInBounds_toArray, List.set_cons_zero, List.set_cons_succ]
            refine gY (i := 13) (x := 160) (v := .bool false) rfl (by kernel_rfl) (by kernel_rfl) (by kernel_rfl) (fun _ _ _ h => h) (by rfl) (by intro w' k; go_simp) ?_
            simp only [Act.put, List.setIfInBounds_toArray, List.set_cons_zero, List.set_cons_succ]
            refine gN (i := 14) (x := 161) rfl (by kernel_rfl) (by kernel_rfl) (by kernel_rfl) (fun _ _ _ h => h) (by rfl) ?_
            simp only [Act.put, List.setIfInBounds_toArray, List.set_cons_zero, List.set_cons_succ]
            refine gN (i := 15) (x := 162) rfl (by kernel_rfl) (by kernel_rfl) (by kernel_rfl) (fun _ _ _ h => h) (by rfl) ?_
            simp only [Act.put, List.setIfInBounds_toArray, List.set_cons_zero, List.set_cons_succ]
            refine gN (i := 16) (x := 163) rfl (by kernel_rfl) (by kernel_rfl) (by kernel_rfl) (fun _ _ _ h => h) (by rfl) ?_
            simp only [Act.put, List.setIfInBounds_toArray, List.set_cons_zero, List.set_cons_succ]
            refine gN (i := 17) (x := 164) rfl (by kernel_rfl) (by kernel_rfl) (by kernel_rfl) (fun _ _ _ h => h) (by rfl) ?_
            simp only [Act.put, List.setIfInBounds_toArray, List.set_cons_zero, List.set_cons_succ]
            refine gN (i := 18) (x := 165) rfl (by kernel_rfl) (by kernel_rfl) (by kernel_rfl) (fun _ _ _ h => h) (by rfl) ?_
            simp only [Act.put, List.setIfInBounds_toArray, List.set_cons_zero, List.set_cons_succ]
            refine gN (i := 19) (x := 166) rfl (by kernel_rfl) (by kernel_rfl) (by kernel_rfl) (fun _ _ _ h => h) (by rfl) ?_
            simp only [Act.put, List.setIfInBounds_toArray, List.set_cons_zero, List.set_cons_succ]
            refine gN (i := 20) (x := 167) rfl (by kernel_rfl) (by kernel_rfl) (by kernel_rfl) (fun _ _ _ h => h) (by rfl) ?_
            simp only [Act.put, List.setIfInBounds_toArray, List.set_cons_zero, List.set_cons_succ]
            refine gN (i := 21) (x := 168) rfl (by kernel_rfl) (by kernel_rfl) (by kernel_rfl) (fun _ _ _ h => h) (by rfl) ?_
            simp only [Act.put, List.setIfInBounds_toArray, List.set_cons_zero, List.set_cons_succ]
            refine gN (i := 22) (x := 169) rfl (by kernel_rfl) (by kernel_rfl) (by kernel_rfl) (fun _ _ _ h => h) (by rfl) ?_
            simp only [Act.put, List.setIfInBounds_toArray, List.set_cons_zero, List.set_cons_succ]
            refine gY (i := 23) (x := 170) (v := .bool false) rfl (by kernel_rfl) (by kernel_rfl) (by kernel_rfl) (fun _ _ _ h => h) (by rfl) (by intro w' k; go_simp) ?_
            simp only [Act.put, List.setIfInBounds_toArray, List.set_cons_zero, List.set_cons_succ]
            refine gY (i := 24) (x := 171) (v := .bool false) rfl (by kernel_rfl) (by kernel_rfl) (by kernel_rfl) (fun _ _ _ h => h) (by rfl) (by intro w' k; go_simp) ?_
            simp only [Act.put, List.setIfInBounds_toArray, List.set_cons_zero, List.set_cons_succ]
            refine gY (i := 25) (x := 172) (v := .bool false) rfl (by kernel_rfl) (by kernel_rfl) (by kernel_rfl) (fun _ _ _ h => h) (by rfl) (by intro w' k; go_simp) ?_
            simp only [Act.put, List.setIfInBounds_toArray, List.set_cons_zero, List.set_cons_succ]
            refine gY (i := 26) (x := 173) (v := .bool false) rfl (by kernel_rfl) (by kernel_rfl) (by kernel_rfl) (fun _ _ _ h => h) (by rfl) (by intro w' k; go_simp) ?_
            simp only [Act.put, List.setIfInBounds_toArray, List.set_cons_zero, List.set_cons_succ]
            refine gY (i := 27) (x := 174) (v := .bool false) rfl (by kernel_rfl) (by kernel_rfl) (by kernel_rfl) (fun _ _ _ h => h) (by rfl) (by intro w' k; go_simp) ?_
            simp only [Act.put, List.setIfInBounds_toArray, List.set_cons_zero, List.set_cons_succ]
            refine gN (i := 28) (x := 175) rfl (by kernel_rfl) (by kernel_rfl) (by kernel_rfl) (fun _ _ _ h => h) (by rfl) ?_
            simp only [Act.put, List.setIfInBounds_toArray, List.set_cons_zero, List.set_cons_succ]
            refine gN (i := 29) (x := 176) rfl (by kernel_rfl) (by kernel_rfl) (by kernel_rfl) (fun _ _ _ h => h) (by rfl) ?_
            simp only [Act.put, List.setIfInBounds_toArray, List.set_cons_zero, List.set_cons_succ]
            refine gN (i := 30) (x := 177) rfl (by kernel_rfl) (by kernel_rfl) (by kernel_rfl) (fun _ _ _ h => h) (by rfl) ?_
            simp only [Act.put, List.setIfInBounds_toArray, List.set_cons_zero, List.set_cons_succ]
            refine gN (i := 31) (x := 178) rfl (by kernel_rfl) (by kernel_rfl) (by kernel_rfl) (fun _ _ _ h => h) (by rfl) ?_
            simp only [Act.put, List.setIfInBounds_toArray, List.set_cons_zero, List.set_cons_succ]
            refine gN (i := 32) (x := 179) rfl (by kernel_rfl) (by kernel_rfl) (by kernel_rfl) (fun _ _ _ h => h) (by rfl) ?_
            simp only [Act.put, List.setIfInBounds_toArray, List.set_cons_zero, List.set_cons_succ]
            refine gN (i := 33) (x := 180) rfl (by kernel_rfl) (by kernel_rfl) (by kernel_rfl) (fun _ _ _ h => h) (by rfl) ?_
            simp only [Act.put, List.setIfInBounds_toArray, List.set_cons_zero, List.set_cons_succ]
            refine gN (i := 34) (x := 181) rfl (by kernel_rfl) (by kernel_rfl) (by kernel_rfl) (fun _ _ _ h => h) (by rfl) ?_
            simp only [Act.put, List.setIfInBounds_toArray, List.set_cons_zero, List.set_cons_succ]
            refine gN (i := 35) (x := 182) rfl (by kernel_rfl) (by kernel_rfl) (by kernel_rfl) (fun _ _ _ h => h) (by rfl) ?_
            simp only [Act.put, List.setIfInBounds_toArray, List.set_cons_zero, List.set_cons_succ]
            refine gN (i := 36) (x := 183) rfl (by kernel_rfl) (by kernel_rfl) (by kernel_rfl) (fun _ _ _ h => h) (by rfl) ?_
            simp only [Act.put, List.setIfInBounds_toArray, List.set_cons_zero, List.set_cons_succ]
            refine gN (i := 37) (x := 184) rfl (by kernel_rfl) (by kernel_rfl) (by kernel_rfl) (fun _ _ _ h => h) (by rfl) ?_
            simp only [Act.put, List.setIfInBounds_toArray, List.set_cons_zero, List.set_cons_succ]
            refine gY (i := 38) (x := 185) (v := .bool false) rfl (by kernel_rfl) (by kernel_rfl) (by kernel_rfl) (fun _ _ _ h => h) (by rfl) (by intro w' k; go_simp) ?_
            simp only [Act.put, List.setIfInBounds_toArray, List.set_cons_zero, List.set_cons_succ]
            refine gY (i := 39) (x := 186) (v := .bool false) rfl (by kernel_rfl) (by kernel_rfl) (by kernel_rfl) (fun _ _ _ h => h) (by rfl) (by intro w' k; go_simp) ?_
            simp only [Act.put, List.setIfInBounds_toArray, List.set_cons_zero, List.set_cons_succ]
            refine gY (i := 40) (x := 187) (v := .bool false) rfl (by kernel_rfl) (by kernel_rfl) (by kernel_rfl) (fun _ _ _ h => h) (by rfl) (by intro w' k; go_simp) ?_
            simp only [Act.put, List.setIfInBounds_toArray, List.set_cons_zero, List.set_cons_succ]
            refine gY (i := 41) (x := 188) (v := .bool false) rfl (by kernel_rfl) (by kernel_rfl) (by kernel_rfl) (fun _ _ _ h => h) (by rfl) (by intro w' k; go_simp) ?_
            simp only [Act.put, List.setIfInBounds_toArray, List.set_cons_zero, List.set_cons_succ]
            refine gY (i := 42) (x := 189) (v := .bool true) rfl (by kernel_rfl) (by kernel_rfl) (by kernel_rfl) (fun _ _ _ h => h) (by rfl) (by intro w' k; go_simp) ?_
            simp only [Act.put, List.setIfInBounds_toArray, List.set_cons_zero, List.set_cons_succ]
            refine gY (i := 43) (x := 190) (v := .bool true) rfl (by kernel_rfl) (by kernel_rfl) (by kernel_rfl) (fun _ _ _ h => h) (by rfl) (by intro w' k; go_simp) ?_
            simp only [Act.put, List.setIfInBounds_toArray, List.set_cons_zero, List.set_cons_succ]
            refine gY (i := 44) (x := 191) (v := .pointer (some ⟨bt, 0, none⟩)) rfl (by kernel_rfl) (by kernel_rfl) (by kernel_rfl) (fun _ _ _ h => h) (by rfl) (by intro w' k; go_simp) ?_
            simp only [Act.put, List.setIfInBounds_toArray, List.set_cons_zero, List.set_cons_succ]
            refine gY (i := 45) (x := 192) (v := .int .i64 (q : Int)) rfl (by kernel_rfl) (by kernel_rfl) (by kernel_rfl) (fun _ _ _ h => h) (by rfl) (by intro w' k; go_simp) ?_
            simp only [Act.put, List.setIfInBounds_toArray, List.set_cons_zero, List.set_cons_succ]
            refine gC (i := 46) (x := 193) (v := .int .i64 0) 12 #[.pointer (some ⟨bt, 0, none⟩), .int .i64 (q : Int)] rfl (by kernel_rfl) (by kernel_rfl) (by kernel_rfl) (fun _ _ _ h => h) (by rfl) (by intro w'; go_simp) (fun w' k => (HE2.out w' (HGA.out.trans k)).mono (by rintro e w2 ⟨rfl, rfl⟩; exact ⟨rfl, Gro.refl _ _⟩)) ?_
            simp only [Act.put, List.setIfInBounds_toArray, List.set_cons_zero, List.set_cons_succ]
            refine gY (i := 47) (x := 194) (v := .bool false) rfl (by kernel_rfl) (by kernel_rfl) (by kernel_rfl) (fun _ _ _ h => h) (by rfl) (by intro w' k; go_simp) ?_
            simp only [Act.put, List.setIfInBounds_toArray, List.set_cons_zero, List.set_cons_succ]
            refine gY (i := 48) (x := 195) (v := .bool false) rfl (by kernel_rfl) (by kernel_rfl) (by kernel_rfl) (fun _ _ _ h => h) (by rfl) (by intro w' k; go_simp) ?_
            simp only [Act.put, List.setIfInBounds_toArray, List.set_cons_zero, List.set_cons_succ]
            refine gY (i := 49) (x := 196) (v := .bool false) rfl (by kernel_rfl) (by kernel_rfl) (by kernel_rfl) (fun _ _ _ h => h) (by rfl) (by intro w' k; go_simp) ?_
            simp only [Act.put, List.setIfInBounds_toArray, List.set_cons_zero, List.set_cons_succ]
            refine gDone (by kernel_rfl) fun w8 hg8 => ?_
            have HG8 := Lib.hid (HGQ.out.trans (HGA.out.trans hg8))
            clear hg8 HBR HGA
            go_wp2_with fail
            go_roundw
            case rel => exact ⟨q + 1, by omega, by go_num, HG8.out⟩
            case measure => simp [intOf]; omega
end Go.Proofs.YtiegcfgedhgpnaaDoor
