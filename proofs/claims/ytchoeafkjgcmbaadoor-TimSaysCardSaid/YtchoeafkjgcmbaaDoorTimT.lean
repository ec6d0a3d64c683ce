/-
  THE WALK OF TimTurned: an element with one bit turned is another one, or none; it answers true. Conditions: four sentinels' own ('Four'), and that the stations lie where the slice says.
-/
import Derived.Test.YtchoeafkjgcmbaaDoorTimH
import Derived.Test.YtchoeafkjgcmbaaDoorFrame
import Derived.Laws.OwnMore
namespace Go.Proofs.YtchoeafkjgcmbaaDoor
open Go.RowKit

/-- The load of a whole row, in an operation that hangs on a test that came out so. -/
theorem load_row_g {P : Program} {ops : Array Oper} {rest : List Oper} {op : Oper} {a : Act} {w : World} {Q : Exit → Act → World → Prop} (hw : Region.wanted op (yielded ops a.tmps) = true) (ty : TypeId) (x : Operand) (ho : op.op = .load ty x)
    (b : Nat) (hx : a.eval x = .pointer (some ⟨b, 0, none⟩)) (F : Array Value) (t : TypeId) (hb : w.heap[b]? = some (.cells F t (0, 0))) (d : TypeDesc) (hu : P.underlying ty = some d) (hd : d.isRow = true)
    (hi : (P.info? ty).map (·.size) = some F.size) (h : wpList P ops Q rest (a.put op.dst (.agg F)) w) : wpList P ops Q (op :: rest) a w := by
  unfold wpList
  rw [if_pos hw]
  exact .inl (wp_load_mid ty x ho b 0 hx F.toList d (fun j v hv => by rw [Nat.zero_add, cell_of_row w b j F t (0, 0) hb]; simpa using hv) hu hd (by simpa using hi) (by simpa using h))
theorem readK_zero {bs : List Int} (h : readK bs = 0) : okT (bs.getD 2 0) (bs.getD 3 0) (aidsB bs) ∧ timL (bs.getD 2 0) (bs.getD 3 0) (groupB bs) (aidsB bs) = bs := by
  unfold readK at h
  by_cases h1 : timK bs ≠ 0
  · rw [if_pos h1] at h
    exact absurd h h1
  · rw [if_neg h1] at h
    by_cases h2 : okT (bs.getD 2 0) (bs.getD 3 0) (aidsB bs)
    · rw [if_neg (not_not_intro h2)] at h
      by_cases h3 : timL (bs.getD 2 0) (bs.getD 3 0) (groupB bs) (aidsB bs) = bs
      · exact ⟨h2, h3⟩
      · rw [if_neg h3] at h
        cases h
    · rw [if_pos h2] at h
      cases h
theorem bytes_of_mem {L : List Int} (h : ∀ x ∈ L, 0 ≤ x ∧ x < 256) : Bytes L := by
  intro i
  rcases Nat.lt_or_ge i L.length with hi | hi
  · rw [List.getD_eq_getElem?_getD, List.getElem?_eq_getElem hi]
    exact h _ (List.getElem_mem _)
  · rw [List.getD_eq_getElem?_getD, List.getElem?_eq_none hi]
    exact ⟨by decide, by decide⟩
theorem xor_all : ∀ n : Fin 256, ∀ j : Fin 8, n.val ^^^ 2 ^ j.val ≠ n.val ∧ n.val ^^^ 2 ^ j.val < 256 := by decide +kernel
theorem xor_turn (y : Int) (j : Nat) (h : 0 ≤ y ∧ y < 256) (hj : j < 8) : (0 ≤ bits .xor .u8 y (2 ^ j % 256) ∧ bits .xor .u8 y (2 ^ j % 256) < 256) ∧ bits .xor .u8 y (2 ^ j % 256) ≠ y := by
  obtain ⟨n, rfl⟩ := Int.eq_ofNat_of_zero_le h.1
  have hp : 2 ^ j < 256 := by
    rcases (show j = 0 ∨ j = 1 ∨ j = 2 ∨ j = 3 ∨ j = 4 ∨ j = 5 ∨ j = 6 ∨ j = 7 from by omega) with rfl | rfl | rfl | rfl | rfl | rfl | rfl | rfl <;> decide
  have e : ((2 : Int) ^ j % 256) = ((2 ^ j : Nat) : Int) := by
    have h1 : (2 : Int) ^ j = ((2 ^ j : Nat) : Int) := (Int.natCast_pow 2 j).symm
    rw [h1]
    exact Int.emod_eq_of_lt (Int.natCast_nonneg _) (Int.ofNat_lt.2 hp)
  rw [e, u8_xor_nat n (2 ^ j) (by omega) hp]
  have := xor_all ⟨n, by omega⟩ ⟨j, hj⟩
  simp only at this
  omega

set_option maxHeartbeats 8000000 in
set_option maxRecDepth 100000 in
theorem turned6_any (count period bit : Int) (group : Bool) (p : Option Addr) (cap : Nat) (xs : List Int) (A : Nat → Addr) (W : World) (hs : Four W.heap.size W A) (hl : LieI W p xs) :
    Calls Tryd.prog 3 #[timV count period group (.slice p xs.length cap), .int .i64 bit] W fun e w' => e = .returned (.bool true) ∧ Far W.heap.size W w' := by
  have HS := Lib.hid (fun w' (k : Gro none W w') => (show Four W.heap.size w' A from hs.far fun i hi => k.block i hi (by simp)))
  have HLI := Lib.hid (fun w' (k : Gro none W w') => hl.gro k (by simp))
  have HT := Lib.hid (fun (h60 : xs.length ≤ 60) (hok : okT count period xs) w' (k : Gro none W w') => tim_any count period group p cap xs w' (hl.gro k (by simp)) (by omega) hok)
  have HTB := Lib.hid (fun (h60 : xs.length ≤ 60) (hok : ¬ okT count period xs) w' (k : Gro none W w') => tim_bad count period group p cap xs _ w' (hl.gro k (by simp)) (by omega) hok (hs.far fun i hi => k.block i hi (by simp)).c2 (by have := hs.big; have := k.size; omega))
  have HST := Lib.hid (fun (h60 : xs.length ≤ 60) (c' p' : Int) (g' : Bool) (q : Option Addr) (d : Nat) (ys : List Int) (hy : ys.length ≤ 100000) w' (k : Gro none W w') (h' : LieI w' q ys) => sameTim_any c' p' count period g' group q p d cap ys xs w' h' (hl.gro k (by simp)) hy)
  clear hs hl
  generalize hn : xs.length = n at *
  unfold timV at *
  go_enter Tryd.func3, Tryd.ntmps3
  go_wp2_with fail
  have hgb : Gro none W (W.alloc (.cells #[.int .i64 count, .int .i64 period, .bool group, .slice p n cap] 24)) := (Gro.refl _ _).alloc _
  have hbx : (W.alloc (.cells #[.int .i64 count, .int .i64 period, .bool group, .slice p n cap] 24)).heap[W.heap.size]? = some (.cells #[.int .i64 count, .int .i64 period, .bool group, .slice p n cap] 24 (0, 0)) := heap_alloc_new W _
  generalize W.alloc (.cells #[.int .i64 count, .int .i64 period, .bool group, .slice p n cap] 24) = wb at *
  have HBX := Lib.hid (fun w' (k : Gro none wb w') => (k.block W.heap.size (blk_in hbx) (by simp)).trans hbx)
  have HG := Lib.hid hgb
  clear hgb hbx
  refine (first6_any wb).mono ?_
  rintro e w1 ⟨rfl, hg1⟩
  have HG1 := Lib.hid hg1
  have hb1 := HBX.out _ hg1
  have c3 := cell_of_row w1 W.heap.size 3 _ _ _ hb1
  simp only [List.getElem?_toArray, List.getElem?_cons_zero, List.getElem?_cons_succ] at c3
  clear hg1
  by_cases h60 : n ≤ 60
  · have i60 : ¬ 60 < (n : Int) := by omega
    go_wp2_with (refine load_row rfl _ _ rfl _ rfl _ _ hb1 _ Tryd.underlying24 rfl (by kernel_rfl) ?_)
    clear hb1 c3
    by_cases hok : okT count period xs
    · refine (HT.out h60 hok w1 (HG.out.trans HG1.out)).mono ?_
      rintro e w2 ⟨v, rfl, hg2, ho2⟩
      clear HTB HT
      have hlen := timL_len count period group xs
      have hsz := sizeOf_pos hok.2.2
      have hby : Bytes (timL count period group xs) := bytes_of_mem (tim_bytes hok)
      generalize hL : timL count period group xs = L at *
      generalize hm : sizeOf' xs + 5 = m at *
      have m6 : 6 ≤ m := by omega
      have m256 : m ≤ 256 := by omega
      have HL := Lib.hid hL
      clear hL hok hsz hm
      have HG2 := Lib.hid (HG1.out.trans hg2)
      obtain ⟨g, cp, rfl⟩ : ∃ g cp, v = .slice (some ⟨g, 0, none⟩) m cp := by
        have HO := ho2
        unfold Own at HO
        rw [hlen] at HO
        rcases HO.2 with ⟨_, h0⟩ | ⟨g, cp, _, rfl, _⟩
        · omega
        · exact ⟨g, cp, rfl⟩
      have HO2 := Lib.hid ho2
      have HBY := Lib.hid hby
      have HLN := Lib.hid hlen
      have hgB : w1.heap.size ≤ g := by
        have HO := ho2
        unfold Own at HO
        rw [hlen] at HO
        rcases HO.2 with ⟨h, _⟩ | ⟨g', cap', _, h, hb, _⟩
        · cases h
        · cases h; exact hb
      have hcap : m ≤ cp := by
        obtain ⟨p', cap', e', hcap, -, -⟩ := ho2.lie
        rw [hlen] at e' hcap
        injection e' with e1 e2 e3
        subst e3
        exact hcap
      clear hg2 ho2 hby hlen
      obtain ⟨q, hq⟩ := Int.eq_ofNat_of_zero_le (Int.emod_nonneg bit (show (8 * (m : Int)) ≠ 0 by omega))
      have hq8 : q < 8 * m := by have := Int.emod_lt_of_pos bit (show (0 : Int) < 8 * (m : Int) by omega); omega
      have HQ := Lib.hid (fun w => number_at bit (8 * (m : Int)) q w hq (by omega) (by omega))
      clear hq
      go_wp2_with fail
      refine (HQ.out _).mono ?_
      rintro e w' ⟨rfl, rfl⟩
      have HO := HO2.out
      unfold Own at HO
      rw [HLN.out] at HO
      have hc := HO.cellAt (q / 8) (by omega)
      have hf := HO.frozenAt (q / 8)
      have HSTO := Lib.hid (fun u => HO.stored (q / 8) u)
      have hl2 : L[q / 8]? = some (L.getD (q / 8) 0) := by
        rw [List.getD_eq_getElem?_getD, List.getElem?_eq_getElem (by have := HLN.out; omega)]; rfl
      rw [List.getElem?_map, hl2] at hc
      simp only [Option.map_some] at hc
      have HY := Lib.hid (HBY.out (q / 8))
      generalize hy : L.getD (q / 8) 0 = y at *
      have HYE := Lib.hid hy
      have i0 : q / 8 < m := by omega
      have i1 : q < 2048 := by omega
      clear hy hl2 HO HQ
      go_wp2_with fail
      have hv := xor_turn y (q % 8) HY.out (by omega)
      generalize bits .xor .u8 y (2 ^ (q % 8) % 256) = u at *
      have hOL : Own w1.heap.size (w2.setCell ⟨g, q / 8, none⟩ (.int .u8 u)) (.slice (some ⟨g, 0, none⟩) m cp) (L.set (q / 8) u) := by
        have h := (HSTO.out (.int .u8 u)).1
        rw [← List.map_set] at h
        unfold Own
        rw [List.length_set, HLN.out]
        exact h
      have hne : L.set (q / 8) u ≠ L := by
        intro e
        have h1 : (L.set (q / 8) u).getD (q / 8) 0 = L.getD (q / 8) 0 := by rw [e]
        rw [HYE.out, List.getD_eq_getElem?_getD, List.getElem?_set_self (by rw [HLN.out]; exact i0)] at h1
        exact hv.2 h1
      have hby2 : Bytes (L.set (q / 8) u) := by
        intro k
        by_cases hk : k = q / 8
        · subst hk
          rw [List.getD_eq_getElem?_getD, List.getElem?_set_self (by rw [HLN.out]; exact i0)]
          exact hv.1
        · rw [List.getD_eq_getElem?_getD, List.getElem?_set_ne (Ne.symm hk), ← List.getD_eq_getElem?_getD]
          exact HBY.out k
      have hg5 : Gro none wb (w2.setCell ⟨g, q / 8, none⟩ (.int .u8 u)) := Gro.setNew HG2.out (p := ⟨g, q / 8, none⟩) (Nat.le_trans HG1.out.size hgB) _
      have hlen2 : (L.set (q / 8) u).length = m := by rw [List.length_set, HLN.out]
      have hli2 : Lie (w2.setCell ⟨g, q / 8, none⟩ (.int .u8 u)) (some ⟨g, 0, none⟩) (L.set (q / 8) u) := by
        obtain ⟨p', cap', e', -, hli, -⟩ := hOL.lie
        injection e' with e1 e2 e3
        subst e1
        exact hli
      generalize w2.setCell ⟨g, q / 8, none⟩ (.int .u8 u) = w5 at *
      generalize L.set (q / 8) u = L2 at *
      have hR := read_any (some ⟨g, 0, none⟩) cp L2 W.heap.size A w5 (HS.out w5 (HG.out.trans hg5)) (HG.out.trans hg5).size (by rw [hlen2]; exact hcap) (by omega) hli2 hby2
      rw [hlen2] at hR
      have HR := Lib.hid hR
      have HG5 := Lib.hid hg5
      have HNE := Lib.hid hne
      have HAL : Hid ((aidsB L2).length ≤ 100000) := by have := aidsB_len L2; unfold Hid; omega
      have HRZ := Lib.hid (fun h => readK_zero (bs := L2) h)
      clear hv hOL hne hby2 hg5 hlen2 hli2 hc hf HSTO HY HYE HBY HLN i0 i1 HG2 HO2 hR hgB hcap
      generalize readK L2 = k at *
      generalize L2.getD 2 0 = v2 at *
      generalize L2.getD 3 0 = v3 at *
      generalize groupB L2 = gb at *
      generalize aidsB L2 = ys at *
      unfold timV at HR
      refine HR.out.mono ?_
      rintro e w6 ⟨hg, h1, h2⟩
      have HG6 := Lib.hid (HG5.out.trans hg)
      clear hg HR HG5
      by_cases hk : k = 0
      · obtain ⟨s, rfl, ho⟩ := h2 hk
        obtain ⟨q', d, rfl, hli⟩ := ho.lie
        have hz := HRZ.out hk
        have hd : decide (v2 = count ∧ v3 = period ∧ gb = group ∧ ys = xs) = false := by
          apply decide_eq_false
          rintro ⟨rfl, rfl, rfl, rfl⟩
          exact HNE.out (hz.2.symm.trans HL.out)
        have HSM := Lib.hid (fun w' (k' : Gro none w6 w') => HST.out h60 v2 v3 gb q' d ys HAL.out w' (HG.out.trans (HG6.out.trans k')) (hli.gro k' (by simp)))
        rw [hd] at HSM
        clear hd hz ho hli h1 h2 hk HST HRZ
        generalize ys.length = ny at *
        go_wp2_with (refine alloc_row rfl 24 rfl 9 rfl #[.int .i64 0, .int .i64 0, .bool false, .slice none 0 0] 24 tim_run rfl (.tmp 54) rfl (by first | (simp; done) | (simp [Act.put]; done)) #[.int .i64 v2, .int .i64 v3, .bool gb, .slice q' ny d] (by rfl) rfl (by kernel_rfl) (by simp [Value.oneCell']) ?_)
        intro w7 hg hr
        have hr8 := hr
        have hb8 := HBX.out _ (HG6.out.trans hg)
        have HG7 := Lib.hid hg
        clear hg hr
        go_wp2_with (first | (refine load_row_g (by rfl) _ _ rfl _ rfl _ _ hr8 _ Tryd.underlying24 rfl (by kernel_rfl) ?_) | (refine load_row_g (by rfl) _ _ rfl _ rfl _ _ hb8 _ Tryd.underlying24 rfl (by kernel_rfl) ?_))
        clear hr8 hb8
        (try go_wp2_with fail)
        refine (HSM.out _ HG7.out).mono ?_
        rintro e w9 ⟨rfl, hg⟩
        have HG9 := Lib.hid (HG7.out.trans hg)
        clear hg
        go_wp2_with fail
        go_ret
        exact ⟨rfl, (Far.refl _ _).gro (HG.out.trans (HG6.out.trans HG9.out)) (Nat.le_refl _) (fun _ e => by cases e)⟩
      · obtain rfl := h1 hk
        obtain ⟨a, ha⟩ := errV_pos A hk
        rw [ha]
        clear h1 h2 hk ha HST HRZ
        go_wp2_with (refine alloc_row rfl 24 rfl 9 rfl #[.int .i64 0, .int .i64 0, .bool false, .slice none 0 0] 24 tim_run rfl (.tmp 54) rfl (by first | (simp; done) | (simp [Act.put]; done)) #[.int .i64 0, .int .i64 0, .bool false, .slice none 0 0] (by rfl) rfl (by kernel_rfl) (by simp [Value.oneCell']) ?_)
        intro w7 hg _
        have HG7 := Lib.hid (HG6.out.trans hg)
        clear hg
        go_wp2_with fail
        go_ret
        exact ⟨rfl, (Far.refl _ _).gro (HG.out.trans HG7.out) (Nat.le_refl _) (fun _ e => by cases e)⟩
    · refine (HTB.out h60 hok w1 (HG.out.trans HG1.out)).mono ?_
      rintro e w2 ⟨rfl, hg2⟩
      have HG2 := Lib.hid (HG1.out.trans hg2)
      clear hg2 HTB HT hok
      go_wp2_with fail
      go_ret
      exact ⟨rfl, (Far.refl _ _).gro (HG.out.trans HG2.out) (Nat.le_refl _) (fun _ e => by cases e)⟩
  · have i60 : 60 < (n : Int) := by omega
    clear HT HTB HST hb1
    go_wp2_with fail
    go_ret
    exact ⟨rfl, (Far.refl _ _).gro (HG.out.trans HG1.out) (Nat.le_refl _) (fun _ e => by cases e)⟩
end Go.Proofs.YtchoeafkjgcmbaaDoor
