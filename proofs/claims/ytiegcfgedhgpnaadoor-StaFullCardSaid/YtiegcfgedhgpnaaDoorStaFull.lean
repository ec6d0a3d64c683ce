/-
  THE WALK OF StaFull: as many as may be come in, one more is told; it answers true. No condition but the fourteen sentinels' own ('Sent').
-/
import Derived.Test.YtiegcfgedhgpnaaDoorStaAll
import Derived.Test.YtiegcfgedhgpnaaDoorFrame
namespace Go.Proofs.YtiegcfgedhgpnaaDoor
open Go.RowKit

def adI (j : Nat) : Ad := ⟨2, 1, 0, 0, 0, j⟩
def ad29 : Ad := ⟨2, 9, 0, 0, 0, 0⟩
def fullT (n j : Nat) : Sone := if j < n then ⟨true, adI j, 1⟩ else Sone.zero
theorem fullT_in {n j : Nat} (h : j < n) : fullT n j = ⟨true, adI j, 1⟩ := by unfold fullT; rw [if_pos h]
theorem fullT_out {n j : Nat} (h : ¬ j < n) : fullT n j = Sone.zero := by unfold fullT; rw [if_neg h]
theorem fullT_zero : fullT 0 = fun _ => Sone.zero := by
  funext j; rw [fullT_out (by omega)]
theorem fullT_come (n : Nat) : updT (fullT n) n ⟨true, adI n, 0 + 1⟩ = fullT (n + 1) := by
  funext j
  by_cases e : j = n
  · subst e; rw [updT_same, fullT_in (by omega)]; rfl
  · rw [updT_other _ _ _ _ e]
    by_cases h : j < n
    · rw [fullT_in h, fullT_in (by omega)]
    · rw [fullT_out h, fullT_out (by omega)]
theorem adI_inj {i j : Nat} (h : eqA (adI i) (adI j) = true) : i = j := by
  rw [eqA_iff] at h
  unfold adI at h
  simp at h
  omega
theorem fullT_hit (n i k : Nat) (h : n ≤ i) : hitB (fullT n) (adI i) k = false := by
  unfold hitB
  by_cases hk : k < n
  · rw [fullT_in hk]
    cases e : eqA (adI k) (adI i) with
    | false => rfl
    | true => have := adI_inj e; omega
  · rw [fullT_out hk]; rfl
def T1 (m q : Nat) : Nat → Sone := updT (fullT m) q ⟨false, adZ, 1⟩
def T2 (m q : Nat) : Nat → Sone := updT (T1 m q) q ⟨true, ad29, 1 + 1⟩
theorem T1_q (m q : Nat) : T1 m q q = ⟨false, adZ, 1⟩ := updT_same _ _ _
theorem T2_q (m q : Nat) : T2 m q q = ⟨true, ad29, 2⟩ := updT_same _ _ _
theorem T1_k {m q k : Nat} (h : k ≠ q) : T1 m q k = fullT m k := updT_other _ _ _ _ h
theorem T2_k {m q k : Nat} (h : k ≠ q) : T2 m q k = fullT m k := (updT_other _ _ _ _ h).trans (T1_k h)
theorem hit29 (m k : Nat) : hitB (fullT m) ad29 k = false := by
  unfold hitB
  by_cases hk : k < m
  · rw [fullT_in hk]; rfl
  · rw [fullT_out hk]; rfl
theorem T1_hit (m q k : Nat) : hitB (T1 m q) ad29 k = false := by
  by_cases e : k = q
  · subst e; unfold hitB; rw [T1_q]; rfl
  · have := hit29 m k
    unfold hitB at *
    rw [T1_k e]; exact this
theorem T2_hit {m q k : Nat} (h : k < q) : hitB (T2 m q) ad29 k = false := by
  have := hit29 m k
  unfold hitB at *
  rw [T2_k (by omega)]; exact this
theorem T2_yes (m q : Nat) : hitB (T2 m q) ad29 q = true := by
  unfold hitB; rw [T2_q]; rfl
theorem T2_all {m q : Nat} (hq : q < m) : ∀ k, (allL (T2 m q) k).length = min k m
  | 0 => by simp [allL]
  | k + 1 => by
    have ih := T2_all hq k
    by_cases e : k < m
    · rw [allL_in]
      · simp [ih]; omega
      · by_cases e2 : k = q
        · subst e2; rw [T2_q]
        · rw [T2_k e2, fullT_in e]
    · rw [allL_out, ih]
      · omega
      · rw [T2_k (by omega), fullT_out e]; rfl

theorem owns_shape {W : World} {base : Nat} {e : TypeId} {size : Nat} {v : Value} {n : Nat} {xs : List Value} (h : W.ownsRow base e size v n xs) : ∃ p cap, v = .slice p n cap := by
  rcases h.2 with ⟨rfl, rfl⟩ | ⟨g, cap, _, rfl, _⟩
  · exact ⟨_, _, rfl⟩
  · exact ⟨_, _, rfl⟩
structure F3 (W : World) (b : Nat) (w : World) (T : Nat → Sone) : Prop where
  tab : Tab b w T
  far : Far W.heap.size W w
  ne : W.heap.size ≤ b
section
variable {W w w' : World} {b : Nat} {T T' : Nat → Sone}
theorem F3.put (h : F3 W b w T) (k : Gro (some b) w w') (hp : Tab b w' T') : F3 W b w' T' :=
  ⟨hp, h.far.gro k h.far.size (fun g e => by cases e; exact h.ne), h.ne⟩
theorem F3.same (h : F3 W b w T) (k : Gro none w w') : F3 W b w' T :=
  ⟨h.tab.gro k (by simp), h.far.gro k h.far.size (fun g e => by cases e), h.ne⟩
theorem F3.sent {A : Nat → Addr} (h : F3 W b w T) (hs : Sent W.heap.size W A) : Sent W.heap.size w A := hs.far h.far.block
end
theorem f3_new (W w : World) (hf : Far W.heap.size W w) : F3 W w.heap.size (w.alloc tabZ) (fullT 0) := by
  rw [fullT_zero]
  exact ⟨tab_new w, hf.gro ((Gro.refl none _).alloc _) hf.size (fun _ e => by cases e), hf.size⟩

set_option maxHeartbeats 1000000 in
set_option maxRecDepth 100000 in
theorem full_any (n out : Int) (A : Nat → Addr) (W : World) (hs : Sent W.heap.size W A) :
    Calls Tryd.prog 4 #[.int .i64 n, .int .i64 out] W fun e w' => e = .returned (.bool true) ∧ Far W.heap.size W w' := by
  obtain ⟨N0, hN0⟩ := Int.eq_ofNat_of_zero_le (Int.emod_nonneg n (show (4 : Int) ≠ 0 by decide))
  have hN4 : N0 < 4 := by have := Int.emod_lt_of_pos n (show (0 : Int) < 4 by decide); omega
  have HN := Lib.hid hN0
  have HS := Lib.hid hs
  have h13 : 14 ≤ W.heap.size := hs.big
  clear hN0 hs
  go_enter Tryd.func4, Tryd.ntmps4
  go_wp2_with fail
  refine (first_any W).mono ?_
  rintro e w1 ⟨rfl, hg1⟩
  have hF1 : Far W.heap.size W w1 := (Far.refl _ _).gro hg1 (Nat.le_refl _) (fun _ e => by cases e)
  clear hg1
  go_wp2_with fail
  refine (number_at n 4 N0 w1 HN.out (by decide) (by decide)).mono ?_
  rintro e w' ⟨rfl, rfl⟩
  clear HN
  go_wp2_with (refine wpList_alloc_as rfl 30 rfl tabZ (alloc_run _) ?_)
  have hF := f3_new W w1 hF1
  generalize w1.alloc tabZ = w2 at *
  generalize w1.heap.size = b at *
  clear hF1
  go_loopw [7] (fun i wr => ∃ k : Nat, k ≤ N0 + 14 ∧ i = .int .i64 k ∧ F3 W b wr (fullT (min k 16))) (fun i _ => N0 + 14 - (intOf i).toNat)
  case atStart => exact ⟨0, Nat.zero_le _, rfl, hF⟩
  case round =>
    clear hF
    obtain ⟨k, hk, rfl, hF⟩ := hrel
    by_cases hlt : k < N0 + 14
    · by_cases h16 : k < 16
      · rw [Nat.min_eq_left (by omega)] at hF
        have HA := Lib.hid (add_new b (adI k) k 0 wr _ hF.tab (show (0 : Int) ≤ 2 by decide) (show (2 : Int) < 256 by decide) (by simp [fairA, adI, eqA, adZ]) (fun j _ => fullT_hit k k j (Nat.le_refl _)) h16 (fun j hj => by rw [fullT_in hj]) (by rw [fullT_out (by omega)]; rfl) (by rw [fullT_out (by omega)]; rfl) (by decide) (by decide))
        rw [fullT_come] at HA
        have HF := Lib.hid hF
        clear hF
        simp only [adV, adI] at HA
        go_wp2_with fail
        refine HA.out.mono ?_
        rintro e' w5 ⟨rfl, hg5, hT5⟩
        have h5 := Lib.hid (HF.out.put hg5 hT5)
        clear HA HF hg5 hT5
        go_wp2_with fail
        go_roundw
        case rel => exact ⟨k + 1, by omega, by go_num, by rw [Nat.min_eq_left (by omega)]; exact h5.out⟩
        case measure => simp [intOf]; omega
      · obtain rfl : k = 16 := by omega
        rw [show min 16 16 = 16 from rfl] at hF
        have hsw := hF.sent HS.out
        have HA := Lib.hid (add_full b (adI 16) (errV A 9) wr _ hF.tab (show (0 : Int) ≤ 2 by decide) (show (2 : Int) < 256 by decide) (by simp [fairA, adI, eqA, adZ]) (fun j _ => fullT_hit 16 16 j (Nat.le_refl _)) (fun j hj => by rw [fullT_in hj]) hsw.c8 (by have := hF.far.size; omega))
        have HI := Lib.hid (fun w' (h : Gro none wr w') => is_any W.heap.size w' A ((hF.same h).sent HS.out) (hF.same h).far.size 9 (by decide) 109)
        rw [show decide (codeOf 9 = 109) = true from rfl] at HI
        have HF := Lib.hid hF
        generalize errV A 9 = v at *
        clear hF hsw
        simp only [adV, adI] at HA
        go_wp2_with fail
        refine HA.out.mono ?_
        rintro e' w5 ⟨rfl, hg5⟩
        have HG5 := Lib.hid hg5
        clear HA hg5
        go_wp2_with fail
        refine (HI.out _ HG5.out).mono ?_
        rintro e' w6 ⟨rfl, hg6⟩
        have h6 := Lib.hid (HF.out.same (HG5.out.trans hg6))
        clear HI HF HG5 hg6
        go_wp2_with fail
        go_roundw
        case rel => exact ⟨17, by omega, by go_num, h6.out⟩
        case measure => simp [intOf]; omega
    · obtain rfl : k = N0 + 14 := by omega
      rcases (show N0 + 14 ≤ 16 ∨ 16 < N0 + 14 from by omega) with hle | hle
      case' inl =>
        obtain ⟨m, hm⟩ : ∃ m, m = N0 + 14 := ⟨_, rfl⟩
        rw [Nat.min_eq_left hle, ← hm] at hF
        obtain ⟨q, hq⟩ := Int.eq_ofNat_of_zero_le (Int.emod_nonneg out (show (m : Int) ≠ 0 by omega))
        have hqm : q < m := by have := Int.emod_lt_of_pos out (show (0 : Int) < m by omega); omega
        have hmi : (m : Int) = (N0 : Int) + 14 := by omega
        have HM := Lib.hid hmi
        have HQ := Lib.hid (number_at out m q wr hq (by omega) (by omega))
        rw [hmi] at HQ
        have HF := Lib.hid hF
        have hm2 : m ≤ 16 := by omega
        have hm1 : 14 ≤ m := by omega
        clear hF hq hmi hm
        go_wp2_with fail
        refine HQ.out.mono ?_
        rintro e' w' ⟨rfl, rfl⟩
        generalize hmv : (N0 : Int) + 14 = mv
        obtain rfl : mv = (m : Int) := by rw [← hmv]; exact HM.out.symm
      case' inr =>
        obtain ⟨m, hm⟩ : ∃ m, m = 16 := ⟨_, rfl⟩
        rw [Nat.min_eq_right (by omega), ← hm] at hF
        obtain ⟨q, hq⟩ := Int.eq_ofNat_of_zero_le (Int.emod_nonneg out (show (m : Int) ≠ 0 by omega))
        have hqm : q < m := by have := Int.emod_lt_of_pos out (show (0 : Int) < m by omega); omega
        have hmi : (m : Int) = 16 := by omega
        have HM := Lib.hid hmi
        have HQ := Lib.hid (number_at out m q wr hq (by omega) (by omega))
        rw [hmi] at HQ
        have HF := Lib.hid hF
        have hm2 : m ≤ 16 := by omega
        have hm1 : 14 ≤ m := by omega
        clear hF hq hmi hm
        go_wp2_with fail
        refine HQ.out.mono ?_
        rintro e' w' ⟨rfl, rfl⟩
        generalize hmv : (16 : Int) = mv
        obtain rfl : mv = (m : Int) := by rw [← hmv]; exact HM.out.symm
      all_goals
        clear hmv HM HQ hle
        have hth : (fullT m q).th = true := by rw [fullT_in hqm]
        have hep : (fullT m q).ep = 1 := by rw [fullT_in hqm]
        have HD := Lib.hid (del_there b ((q : Int) + 1) q wr _ HF.out.tab (by omega) rfl hth)
        rw [hep, show updT (fullT m) q ⟨false, adZ, 1⟩ = T1 m q from rfl] at HD
        clear hth hep
        have hq16 : q < 16 := by omega
        go_wp2_with fail
        refine HD.out.mono ?_
        rintro e' w3 ⟨rfl, hg3, hT3⟩
        have H3 := Lib.hid (HF.out.put hg3 hT3)
        have HE := Lib.hid (del_gone b ((q : Int) + 1) q (errV A 7) w3 _ H3.out.tab (by omega) rfl (by rw [T1_q]) (H3.out.sent HS.out).c6)
        clear HD HF hg3 hT3
        have H7 := Lib.hid (rfl : errV A 7 = errV A 7)
        generalize hv7 : errV A 7 = v7 at HE
        have HV7 := Lib.hid hv7
        clear hv7 H7
        go_wp2_with fail
        refine HE.out.mono ?_
        rintro e' w' ⟨rfl, rfl⟩
        clear HE
        have HA := Lib.hid (add_new b ad29 q 1 w3 _ H3.out.tab (show (0 : Int) ≤ 2 by decide) (show (2 : Int) < 256 by decide) (by decide) (fun j _ => T1_hit m q j) hq16 (fun j hj => by rw [T1_k (by omega), fullT_in (by omega)]) (by rw [T1_q]) (by rw [T1_q]) (by decide) (by decide))
        simp only [adV, ad29] at HA
        go_wp2_with fail
        refine HA.out.mono ?_
        rintro e' w4 ⟨rfl, hg4, hT4⟩
        have H4 := Lib.hid (H3.out.put hg4 (show Tab b w4 (T2 m q) from hT4))
        clear HA H3 hg4 hT4
        have HA := Lib.hid (add_twice b ad29 (errV A 8) q w4 _ H4.out.tab (show (0 : Int) ≤ 2 by decide) (show (2 : Int) < 256 by decide) (by decide) hq16 (fun j hj => T2_hit hj) (T2_yes m q) (H4.out.sent HS.out).c7 (by have := H4.out.far.size; omega))
        simp only [adV, ad29] at HA
        generalize hv8 : errV A 8 = v8 at HA
        have HV8 := Lib.hid hv8
        clear hv8
        go_wp2_with fail
        refine HA.out.mono ?_
        rintro e' w5 ⟨rfl, hg5⟩
        have H5 := Lib.hid (H4.out.same hg5)
        clear HA H4 hg5
        have HA := Lib.hid (add_unfair (.pointer (some ⟨b, 0, none⟩)) ⟨1, 0, 0, 0, 0, 0⟩ (errV A 3) w5 (by decide) (by decide) (by decide) (H5.out.sent HS.out).c2 (by have := H5.out.far.size; omega))
        simp only [adV] at HA
        generalize hv3 : errV A 3 = v3 at HA
        have HV3 := Lib.hid hv3
        go_wp2_with fail
        refine HA.out.mono ?_
        rintro e' w6 ⟨rfl, hg6⟩
        have H6 := Lib.hid (H5.out.same hg6)
        clear HA H5 hg6
        have HA := Lib.hid (add_unfair (.pointer (some ⟨b, 0, none⟩)) ⟨0, 0, 0, 0, 0, 0⟩ (errV A 3) w6 (by decide) (by decide) (by decide) (H6.out.sent HS.out).c2 (by have := H6.out.far.size; omega))
        simp only [adV] at HA
        rw [hv3] at HA
        clear hv3
        go_wp2_with fail
        refine HA.out.mono ?_
        rintro e' w7 ⟨rfl, hg7⟩
        have H7 := Lib.hid (H6.out.same hg7)
        clear HA H6 hg7
        have HI7 := Lib.hid (fun w' (h : Gro none w7 w') => is_any W.heap.size w' A ((H7.out.same h).sent HS.out) (H7.out.same h).far.size 7 (by decide) 107)
        have HI8 := Lib.hid (fun w' (h : Gro none w7 w') => is_any W.heap.size w' A ((H7.out.same h).sent HS.out) (H7.out.same h).far.size 8 (by decide) 108)
        have HI3 := Lib.hid (fun w' (h : Gro none w7 w') => is_any W.heap.size w' A ((H7.out.same h).sent HS.out) (H7.out.same h).far.size 3 (by decide) 103)
        rw [HV7.out, show decide (codeOf 7 = 107) = true from rfl] at HI7
        rw [HV8.out, show decide (codeOf 8 = 108) = true from rfl] at HI8
        rw [HV3.out, show decide (codeOf 3 = 103) = true from rfl] at HI3
        have HL := Lib.hid (fun w' (h : Gro none w7 w') => all_any b w' _ ((H7.out.same h).tab))
        have HP := Lib.hid (fun w' (h : Gro none w7 w') => epoch_in b ((q : Int) + 1) q w' _ ((H7.out.same h).tab) hq16 rfl)
        rw [T2_q] at HP
        have HK := Lib.hid (T2_all hqm 16)
        rw [Nat.min_eq_right hm2] at HK
        have HG := Lib.hid (Gro.refl none w7)
        clear HV7 HV8 HV3
        go_wp2_with fail
        refine (HI7.out _ HG.out).mono ?_
        rintro e' w8 ⟨rfl, hg⟩
        have HG := Lib.hid (HG.out.trans hg)
        clear hg HI7
        go_wp2_with fail
        refine (HP.out _ HG.out).mono ?_
        rintro e' w' ⟨rfl, rfl⟩
        clear HP
        go_wp2_with fail
        refine (HI8.out _ HG.out).mono ?_
        rintro e' w9 ⟨rfl, hg⟩
        have HG := Lib.hid (HG.out.trans hg)
        clear hg HI8
        go_wp2_with fail
        refine (HI3.out _ HG.out).mono ?_
        rintro e' w10 ⟨rfl, hg⟩
        have HG := Lib.hid (HG.out.trans hg)
        clear hg
        go_wp2_with fail
        refine (HI3.out _ HG.out).mono ?_
        rintro e' w11 ⟨rfl, hg⟩
        have HG := Lib.hid (HG.out.trans hg)
        clear hg HI3
        go_wp2_with fail
        refine (HL.out _ HG.out).mono ?_
        rintro e' w12 ⟨v, rfl, hg, hown⟩
        have HG := Lib.hid (HG.out.trans hg)
        rw [HK.out] at hown
        obtain ⟨p, cap, rfl⟩ := owns_shape hown
        clear hg hown HL
        go_wp2_with fail
        go_ret
        exact ⟨rfl, (H7.out.same HG.out).far⟩
end Go.Proofs.YtiegcfgedhgpnaaDoor
