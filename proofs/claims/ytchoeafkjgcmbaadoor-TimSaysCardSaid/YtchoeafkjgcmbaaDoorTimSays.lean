/-
  THE WALK OF TimSays: the bytes of any element, any bytes as one, whether a station is in it, are what the chapter says; it answers true. Conditions: the fourteen sentinels' own ('Sent'), and that the stations and the bytes lie where the slices say.
-/
import Derived.Test.YtchoeafkjgcmbaaDoorTimRefR
import Derived.Test.YtchoeafkjgcmbaaDoorSent
namespace Go.Proofs.YtchoeafkjgcmbaaDoor
open Go.RowKit

/-- The code's bytes of an element and the document's: the same, or the same word. -/
theorem both_bytes (count period : Int) (group : Bool) (p : Option Addr) (cap : Nat) (xs : List Int) (A : Nat → Addr) (W : World) (hs : Sent W.heap.size W A) (hl : LieI W p xs) (hlen : xs.length ≤ 60) : ∃ (k : Nat) (X : List Int), k < 15 ∧ X.length ≤ 256 ∧
    (∀ w, Gro none W w → Calls Tryd.prog 9 #[timV count period group (.slice p xs.length cap)] w fun e w' => ∃ q c, e = .returned (.tuple #[.slice q X.length c, errV A k]) ∧ Gro none w w' ∧ Lie w' q X) ∧
    (∀ w, Gro none W w → Calls Tryd.prog 13 #[timV count period group (.slice p xs.length cap)] w fun e w' => ∃ q c, e = .returned (.tuple #[.slice q X.length c, .int .i64 (codeOf k)]) ∧ Gro none w w' ∧ Lie w' q X) := by
  by_cases ok : okT count period xs
  · have hsz := sizeOf_pos ok.2.2
    refine ⟨0, timL count period group xs, by decide, by rw [timL_len]; omega, fun w k => (tim_any count period group p cap xs w (hl.gro k (by simp)) (by omega) ok).mono ?_, fun w k => (ref_any count period group p cap xs w (hl.gro k (by simp)) (by omega) ok).mono ?_⟩
    · rintro e w' ⟨v, rfl, hg, ho⟩
      obtain ⟨q, c, rfl, -, hli, -⟩ := ho.lie
      exact ⟨q, c, rfl, hg, hli⟩
    · rintro e w' ⟨v, rfl, hg, ho⟩
      obtain ⟨q, c, rfl, -, hli, -⟩ := ho.lie
      exact ⟨q, c, rfl, hg, hli⟩
  · refine ⟨3, [], by decide, by simp, fun w k => (tim_bad count period group p cap xs _ w (hl.gro k (by simp)) (by omega) ok (hs.far fun i hi => k.block i hi (by simp)).c2 (by have := hs.big; have := k.size; omega)).mono ?_, fun w k => (ref_bad count period group p cap xs w (hl.gro k (by simp)) (by omega) ok).mono ?_⟩
    · rintro e w' ⟨rfl, hg⟩
      exact ⟨none, 0, rfl, hg, Lie.nil _ _⟩
    · rintro e w' ⟨rfl, hg⟩
      exact ⟨none, 0, rfl, hg, Lie.nil _ _⟩
theorem refread_any (p : Option Addr) (cap : Nat) (bs : List Int) (w : World) (hcap : bs.length ≤ cap) (hlen : bs.length ≤ 100000) (h : Lie w p bs) (hb : Bytes bs) :
    Calls Tryd.prog 14 #[.slice p bs.length cap] w fun e w' => Gro none w w' ∧ (readK bs ≠ 0 → e = .returned (.tuple #[timV 0 0 false (.slice none 0 0), Value.int .i64 (codeOf (readK bs))])) ∧
      (readK bs = 0 → ∃ s, e = .returned (.tuple #[timV (bs.getD 2 0) (bs.getD 3 0) (groupB bs) s, Value.int .i64 0]) ∧ OwnI w.heap.size w' s (aidsB bs)) := by
  by_cases hk : timK bs = 0
  · have h0 : 0 < bs.length := by
      rcases Nat.eq_zero_or_pos bs.length with h0 | h0
      · unfold timK at hk
        rw [if_pos (by omega)] at hk
        cases hk
      · exact h0
    obtain ⟨b, o, rfl, -⟩ := h 0 h0
    exact refread_main b o cap bs w hcap h hb hk
  · have e : readK bs = timK bs := by unfold readK; rw [if_pos hk]
    rw [e]
    exact (refread_bad p cap bs w hlen h hb hk).mono fun e w' ⟨h1, h2⟩ => ⟨h2, fun _ => h1, fun h => absurd h hk⟩
theorem readK_lt (bs : List Int) : readK bs < 15 := by
  unfold readK
  split
  · unfold timK
    (repeat' split) <;> omega
  · (repeat' split) <;> omega
/-- What any bytes are to the code and to the document: the same element, or the same word. -/
theorem both_reads (p : Option Addr) (cap : Nat) (bs : List Int) (A : Nat → Addr) (W : World) (hs : Sent W.heap.size W A) (hcap : bs.length ≤ cap) (hlen : bs.length ≤ 260) (h : Lie W p bs) (hb : Bytes bs) : ∃ (c0 p0 : Int) (g0 : Bool) (ys : List Int), ys.length ≤ 100000 ∧ (readK bs = 0 → ys = aidsB bs) ∧
    (∀ w, Gro none W w → Calls Tryd.prog 11 #[.slice p bs.length cap] w fun e w' => ∃ q c, e = .returned (.tuple #[timV c0 p0 g0 (.slice q ys.length c), errV A (readK bs)]) ∧ Gro none w w' ∧ LieI w' q ys) ∧
    (∀ w, Gro none W w → Calls Tryd.prog 14 #[.slice p bs.length cap] w fun e w' => ∃ q c, e = .returned (.tuple #[timV c0 p0 g0 (.slice q ys.length c), .int .i64 (codeOf (readK bs))]) ∧ Gro none w w' ∧ LieI w' q ys) := by
  have hR := fun w (k : Gro none W w) => read_any p cap bs W.heap.size A w (hs.far fun i hi => k.block i hi (by simp)).four k.size hcap (by omega) (h.gro k (by simp)) hb
  have hD := fun w (k : Gro none W w) => refread_any p cap bs w hcap (by omega) (h.gro k (by simp)) hb
  by_cases hk : readK bs = 0
  · refine ⟨bs.getD 2 0, bs.getD 3 0, groupB bs, aidsB bs, by have := aidsB_len bs; omega, fun _ => rfl, fun w k => (hR w k).mono ?_, fun w k => (hD w k).mono ?_⟩
    · rintro e w' ⟨hg, -, h2⟩
      obtain ⟨s, rfl, ho⟩ := h2 hk
      obtain ⟨q, c, rfl, hli⟩ := ho.lie
      exact ⟨q, c, by rw [hk]; rfl, hg, hli⟩
    · rintro e w' ⟨hg, -, h2⟩
      obtain ⟨s, rfl, ho⟩ := h2 hk
      obtain ⟨q, c, rfl, hli⟩ := ho.lie
      exact ⟨q, c, by rw [hk]; rfl, hg, hli⟩
  · refine ⟨0, 0, false, [], by simp, fun h => absurd h hk, fun w k => (hR w k).mono ?_, fun w k => (hD w k).mono ?_⟩
    · rintro e w' ⟨hg, h1, -⟩
      exact ⟨none, 0, h1 hk, hg, LieI.nil _ _⟩
    · rintro e w' ⟨hg, h1, -⟩
      exact ⟨none, 0, h1 hk, hg, LieI.nil _ _⟩
set_option maxHeartbeats 8000000 in
set_option maxRecDepth 100000 in
theorem says6_any (count period aid : Int) (group : Bool) (p : Option Addr) (cap : Nat) (xs : List Int) (pb : Option Addr) (cb : Nat) (bs : List Int) (A : Nat → Addr) (W : World) (hs : Sent W.heap.size W A) (hl : LieI W p xs) (hcb : bs.length ≤ cb) (hlb : Lie W pb bs) (hb : Bytes bs) :
    Calls Tryd.prog 4 #[timV count period group (.slice p xs.length cap), .slice pb bs.length cb, .int .i64 aid] W fun e w' => e = .returned (.bool true) ∧ Far W.heap.size W w' := by
  have HBOTH := Lib.hid (fun (h60 : xs.length ≤ 60) => both_bytes count period group p cap xs A W hs hl h60)
  have HREAD := Lib.hid (fun (h260 : bs.length ≤ 260) => both_reads pb cb bs A W hs hcb h260 hlb hb)
  have HIS : Hid (∀ k, k < 15 → ∀ w, Gro none W w → Calls Tryd.prog 16 #[errV A k, .int .i64 (codeOf k)] w fun e w' => e = .returned (.bool true) ∧ Gro none w w') := fun k hk w kk => (is_any W.heap.size w A (hs.far fun i hi => kk.block i hi (by simp)) kk.size k hk (codeOf k)).mono fun e w' ⟨he, hg⟩ => ⟨by rw [he, decide_eq_true rfl], hg⟩
  have HHAS := Lib.hid (fun (h260 : bs.length ≤ 260) w' (k : Gro none W w') => has_any pb cb bs aid W.heap.size A w' (hs.far fun i hi => k.block i hi (by simp)).four k.size hcb (by omega) (hlb.gro k (by simp)) hb)
  have HK15 := Lib.hid (readK_lt bs)
  clear hs hl hcb hlb hb
  unfold timV at *
  generalize hn : xs.length = n at *
  generalize hm : bs.length = m at *
  clear hn hm
  go_enter Tryd.func4, Tryd.ntmps4
  go_wp2_with fail
  have hgb : Gro none W (W.alloc (.cells #[.int .i64 count, .int .i64 period, .bool group, .slice p n cap] 24)) := (Gro.refl _ _).alloc _
  have hbx : (W.alloc (.cells #[.int .i64 count, .int .i64 period, .bool group, .slice p n cap] 24)).heap[W.heap.size]? = some (.cells #[.int .i64 count, .int .i64 period, .bool group, .slice p n cap] 24 (0, 0)) := heap_alloc_new W _
  generalize W.alloc (.cells #[.int .i64 count, .int .i64 period, .bool group, .slice p n cap] 24) = wb at *
  have HBX := Lib.hid (fun w' (k : Gro none wb w') => (k.block W.heap.size (blk_in hbx) (by simp)).trans hbx)
  have HG := Lib.hid hgb
  clear hgb hbx
  refine (first6_any wb).mono ?_
  rintro e w1 ⟨rfl, hg1⟩
  have HG1 := Lib.hid hg1
  have hb1 := HBX.out _ hg1
  have c3 := cell_of_row w1 W.heap.size 3 _ _ _ hb1
  simp only [List.getElem?_toArray, List.getElem?_cons_zero, List.getElem?_cons_succ] at c3
  clear hg1
  by_cases h60 : n ≤ 60
  · have i60 : ¬ 60 < (n : Int) := by omega
    by_cases h260 : m ≤ 260
    · have i260 : ¬ 260 < (m : Int) := by omega
      obtain ⟨k, X, hk15, hX, hB1, hB2⟩ := HBOTH.out h60
      obtain ⟨d0, p0, g0, ys, hys, hya, hR1, hR2⟩ := HREAD.out h260
      have HB1 := Lib.hid hB1
      have HB2 := Lib.hid hB2
      have HR1 := Lib.hid hR1
      have HR2 := Lib.hid hR2
      have HI1 := Lib.hid (HIS.out k hk15)
      have HI2 := Lib.hid (HIS.out (readK bs) HK15.out)
      have HHAS := Lib.hid (HHAS.out h260)
      have HYA := Lib.hid hya
      have HYL := Lib.hid hys
      have HXL := Lib.hid hX
      clear HBOTH HREAD HIS HK15 hk15 hX hB1 hB2 hys hya hR1 hR2
      generalize readK bs = rk at *
      generalize errV A k = u1 at *
      generalize errV A rk = u2 at *
      generalize codeOf k = k1 at *
      go_wp2_with (refine load_row rfl _ _ rfl _ rfl _ _ hb1 _ Tryd.underlying24 rfl (by kernel_rfl) ?_)
      clear c3 hb1
      refine (HB1.out w1 (HG.out.trans HG1.out)).mono ?_
      rintro e w2 ⟨q1, a1, rfl, hg, hli⟩
      have HG2 := Lib.hid (HG1.out.trans hg)
      have HL1 := Lib.hid (fun w' (k : Gro none w2 w') => hli.gro k (by simp))
      have hb2 := HBX.out _ HG2.out
      clear hg hli HB1 HG1
      go_wp2_with (refine load_row rfl _ _ rfl _ rfl _ _ hb2 _ Tryd.underlying24 rfl (by kernel_rfl) ?_)
      clear hb2
      refine (HB2.out w2 (HG.out.trans HG2.out)).mono ?_
      rintro e w3 ⟨q2, a2, rfl, hg, hli⟩
      have HG3 := Lib.hid (HG2.out.trans hg)
      have HL1 := Lib.hid (fun w' (k : Gro none w3 w') => HL1.out w' (hg.trans k))
      have HSB := Lib.hid (fun w' (k : Gro none w3 w') => (sameBytes_any q1 q2 a1 a2 X X w' (HL1.out w' k) (hli.gro k (by simp)) (by have := HXL.out; omega)).mono fun e w'' ⟨he, hg⟩ => (⟨by rw [he, decide_eq_true rfl], hg⟩ : e = Ending.returned (.bool true) ∧ Gro none w' w''))
      clear hg hli HB2 HL1 HG2
      generalize X.length = lx at *
      go_wp2_with fail
      refine (HR1.out w3 (HG.out.trans HG3.out)).mono ?_
      rintro e w4 ⟨q3, a3, rfl, hg, hli⟩
      have HG4 := Lib.hid hg
      have HL3 := Lib.hid (fun w' (k : Gro none w4 w') => hli.gro k (by simp))
      clear hg hli HR1
      go_wp2_with (refine alloc_row rfl 24 rfl 12 rfl #[.int .i64 0, .int .i64 0, .bool false, .slice none 0 0] 24 tim_run rfl (.tmp 42) rfl (by first | (simp; done) | (simp [Act.put]; done)) #[.int .i64 d0, .int .i64 p0, .bool g0, .slice q3 ys.length a3] (by rfl) rfl (by kernel_rfl) (by simp [Value.oneCell']) ?_)
      intro w5 hg hr
      have HR5 := Lib.hid (fun w' (k : Gro none w5 w') => (k.block w4.heap.size (blk_in hr) (by simp)).trans hr)
      have HL3 := Lib.hid (fun w' (k : Gro none w5 w') => HL3.out w' (hg.trans k))
      have HG5 := Lib.hid (HG4.out.trans hg)
      clear hg hr HG4
      generalize w4.heap.size = g4 at *
      go_wp2_with fail
      refine (HR2.out w5 (HG.out.trans (HG3.out.trans HG5.out))).mono ?_
      rintro e w6 ⟨q4, a4, rfl, hg, hli⟩
      have HG6 := Lib.hid (HG5.out.trans hg)
      have HR6 := Lib.hid (fun w' (k : Gro none w6 w') => HR5.out w' (hg.trans k))
      have HST := Lib.hid (fun w' (k : Gro none w6 w') => (sameTim_any d0 p0 d0 p0 g0 g0 q3 q4 a3 a4 ys ys w' (HL3.out w' (hg.trans k)) (hli.gro k (by simp)) HYL.out).mono fun e w'' ⟨he, hg⟩ => (⟨he.trans (ret_bool (decide_eq_true ⟨rfl, rfl, rfl, rfl⟩)), hg⟩ : e = Ending.returned (.bool true) ∧ Gro none w' w''))
      have HRH := Lib.hid (fun w' (k : Gro none w6 w') => refHas_any q4 a4 ys aid w' (hli.gro k (by simp)) HYL.out)
      clear hg hli HR2 HR5 HL3 HG5
      generalize ys.length = ly at *
      go_wp2_with (refine alloc_row rfl 24 rfl 14 rfl #[.int .i64 0, .int .i64 0, .bool false, .slice none 0 0] 24 tim_run rfl (.tmp 47) rfl (by first | (simp; done) | (simp [Act.put]; done)) #[.int .i64 d0, .int .i64 p0, .bool g0, .slice q4 ly a4] (by rfl) rfl (by kernel_rfl) (by simp [Value.oneCell']) ?_)
      intro w7 hg hr
      have HR7 := Lib.hid (fun w' (k : Gro none w7 w') => (k.block w6.heap.size (blk_in hr) (by simp)).trans hr)
      have HR6 := Lib.hid (fun w' (k : Gro none w7 w') => HR6.out w' (hg.trans k))
      have HG7 := Lib.hid (HG6.out.trans hg)
      have HG67 := Lib.hid hg
      clear hg hr
      generalize w6.heap.size = g6 at *
      unfold timV at HST
      have HEND : Hid (decide (rk = 0 ∧ aid ∈ aidsB bs) = (decide (rk = 0) && decide (aid ∈ ys))) := by
        unfold Hid
        by_cases h : rk = 0
        · rw [HYA.out h]
          simp [h]
        · simp [h]
      rw [HEND.out] at HHAS
      go_wp2_with fail
      refine (HSB.out w7 (HG6.out.trans HG67.out)).mono ?_
      rintro e w8 ⟨rfl, hg⟩
      have HG8 := Lib.hid hg
      clear hg HSB
      go_wp2_with fail
      refine (HI1.out w8 (HG.out.trans (HG3.out.trans (HG7.out.trans HG8.out)))).mono ?_
      rintro e w9 ⟨rfl, hg⟩
      have HG9 := Lib.hid (HG8.out.trans hg)
      have hr6 := HR6.out _ HG9.out
      have hr7 := HR7.out _ HG9.out
      clear hg HI1 HG8
      go_wp2_with (first | (refine load_row_g (by rfl) _ _ rfl _ rfl _ _ hr6 _ Tryd.underlying24 rfl (by kernel_rfl) ?_) | (refine load_row_g (by rfl) _ _ rfl _ rfl _ _ hr7 _ Tryd.underlying24 rfl (by kernel_rfl) ?_))
      clear hr6 hr7
      (try go_wp2_with fail)
      refine (HST.out w9 (HG67.out.trans HG9.out)).mono ?_
      rintro e w10 ⟨rfl, hg⟩
      have HG10 := Lib.hid (HG9.out.trans hg)
      clear hg HST HG9
      go_wp2_with fail
      refine (HI2.out w10 (HG.out.trans (HG3.out.trans (HG7.out.trans HG10.out)))).mono ?_
      rintro e w11 ⟨rfl, hg⟩
      have HG11 := Lib.hid (HG10.out.trans hg)
      clear hg HI2 HG10
      go_wp2_with fail
      refine (HHAS.out w11 (HG.out.trans (HG3.out.trans (HG7.out.trans HG11.out)))).mono ?_
      rintro e w12 ⟨rfl, hg⟩
      have HG12 := Lib.hid (HG11.out.trans hg)
      have c7 := cell_of_row w12 g6 3 _ _ _ (HR7.out _ HG12.out)
      simp only [List.getElem?_toArray, List.getElem?_cons_zero, List.getElem?_cons_succ] at c7
      clear hg HG11
      by_cases hk0 : rk = 0
      · subst hk0
        have e0 : codeOf 0 = 0 := rfl
        rw [e0]
        clear HEND HHAS HYA
        simp only [decide_true, Bool.true_and]
        go_wp2_with fail
        refine (HRH.out w12 (HG67.out.trans HG12.out)).mono ?_
        rintro e w13 ⟨rfl, hg⟩
        have HG13 := Lib.hid (HG12.out.trans hg)
        clear hg HRH c7
        generalize decide (aid ∈ ys) = dd at *
        cases dd <;>
        · go_wp2_with fail
          go_ret
          exact ⟨rfl, (Far.refl _ _).gro (HG.out.trans (HG3.out.trans (HG7.out.trans HG13.out))) (Nat.le_refl _) (fun _ e => by cases e)⟩
      · have e0 : (codeOf rk == 0) = false := by
          cases rk with
          | zero => exact absurd rfl hk0
          | succ r => simp [codeOf]; omega
        rw [decide_eq_false hk0]
        simp only [Bool.false_and]
        generalize codeOf rk = cc at *
        clear HEND HHAS HYA HRH
        go_wp2_with fail
        go_ret
        exact ⟨rfl, (Far.refl _ _).gro (HG.out.trans (HG3.out.trans (HG7.out.trans HG12.out))) (Nat.le_refl _) (fun _ e => by cases e)⟩
    · have i260 : 260 < (m : Int) := by omega
      clear hb1
      go_wp2_with fail
      go_ret
      exact ⟨rfl, (Far.refl _ _).gro (HG.out.trans HG1.out) (Nat.le_refl _) (fun _ e => by cases e)⟩
  · have i60 : 60 < (n : Int) := by omega
    clear hb1
    go_wp2_with fail
    go_ret
    exact ⟨rfl, (Far.refl _ _).gro (HG.out.trans HG1.out) (Nat.le_refl _) (fun _ e => by cases e)⟩
end Go.Proofs.YtchoeafkjgcmbaaDoor
