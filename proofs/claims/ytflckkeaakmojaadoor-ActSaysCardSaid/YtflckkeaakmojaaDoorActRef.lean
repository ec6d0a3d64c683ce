/-
  THE DOCUMENT's WRITING OF CHAPTER 5: out, two, addr, head, AddBytes, DelBytes. Conditions: the row that is written on is the caller's own ('Own').
-/
import Derived.Test.YtflckkeaakmojaaDoorActW
import Derived.Test.YtflckkeaakmojaaDoorSame
import Derived.Test.YtflckkeaakmojaaDoorChain
import Derived.Test.YtflckkeaakmojaaDoorCalm3
namespace Go.Proofs.YtflckkeaakmojaaDoor
open Go.RowKit

theorem out_any (n m : Int) (w : World) : Calls Tryd.prog 31 #[.int .i64 n, .int .i64 m] w fun e w' => e = .returned (.bool (!decide (0 ≤ n ∧ n ≤ m))) ∧ w = w' := by
  by_cases h : 0 ≤ n ∧ n ≤ m
  · rw [decide_eq_true h]
    obtain ⟨h0, h1⟩ := h
    have h2 : ¬ n < 0 := by omega
    have h3 : ¬ m < n := by omega
    go_enter Tryd.func31, Tryd.ntmps31
    go_wp2
    go_ret
    exact ⟨rfl, rfl⟩
  · rw [decide_eq_false h]
    by_cases h1 : n < 0
    · clear h
      go_enter Tryd.func31, Tryd.ntmps31
      go_wp2
      go_ret
      exact ⟨rfl, rfl⟩
    · have h2 : m < n := by omega
      clear h
      go_enter Tryd.func31, Tryd.ntmps31
      go_wp2
      go_ret
      exact ⟨rfl, rfl⟩
theorem flag_any (b : Bool) (w : World) : Calls Tryd.prog 34 #[.bool b, .int .i64 2048] w fun e w' => e = .returned (.int .i64 (if b then 2048 else 0)) ∧ Gro none w w' := by
  cases b
  · go_enter Tryd.func34, Tryd.ntmps34
    go_wp2_with fail
    go_ret
    exact ⟨rfl, Gro.refl _ _⟩
  · go_enter Tryd.func34, Tryd.ntmps34
    go_wp2_with fail
    go_ret
    exact ⟨rfl, Gro.refl _ _⟩

theorem rtwo_any (w0 : World) (L : List Int) (v : Value) (n : Int) (w : World) (ho : Own w0.heap.size w v L) (hg : Gro none w0 w) (hl : L.length ≤ 1000) (h0 : 0 ≤ n) (h1 : n < 65536) :
    Calls Tryd.prog 33 #[v, .int .i64 n] w fun e w' => ∃ v', e = .returned v' ∧ Own w0.heap.size w' v' (L ++ twoL n) ∧ Gro none w0 w' := by
  have HO := Lib.hid ho
  have HG := Lib.hid hg
  have HL := Lib.hid hl
  obtain ⟨X, hX⟩ : ∃ X, X = twoL n := ⟨_, rfl⟩
  rw [← hX]
  have HX := Lib.hid hX
  clear ho hg hl hX
  go_enter Tryd.func33, Tryd.ntmps33
  go_wp2_with (at_builtin; refine app_bytes rfl _ _ rfl w0 L X _ rfl ?c1 ?c2 _ _ _ rfl ?c5 ?c3 ?c4 ?_)
  case c1 => exact HO.out.gro ((Gro.refl none _).alloc _) (by simp)
  case c2 => exact HG.out.alloc _
  case c5 => rw [HX.out]; rfl
  case c3 => rw [HX.out]; exact lie_two w _ _ _ _ rfl (Gro.refl _ _)
  case c4 => have := HL.out; omega
  intro v1 w1 ho1 hg1
  have HO1 := Lib.hid (And.intro ho1 hg1)
  clear ho1 hg1
  go_wp2_with fail
  go_ret
  exact ⟨_, rfl, HO1.out.1, HO1.out.2⟩

theorem take_one (l : List Int) (k : Nat) (h : k < l.length) : l.take (k + 1) = l.take k ++ [l.getD k 0] := by
  rw [List.take_add_one, List.getD_eq_getElem?_getD, List.getElem?_eq_getElem h]; rfl

theorem raddr_any (w0 : World) (L : List Int) (v : Value) (x : Ad) (w : World) (ho : Own w0.heap.size w v L) (hg : Gro none w0 w) (hl : L.length ≤ 1000) :
    Calls Tryd.prog 41 #[v, adV x] w fun e w' => ∃ v', e = .returned v' ∧ Own w0.heap.size w' v' (L ++ adL x) ∧ Gro none w0 w' := by
  have HLX := Lib.hid (fun w' (k : Gro none (w.alloc (.cells #[.int .u8 x.b0, .int .u8 x.b1, .int .u8 x.b2, .int .u8 x.b3, .int .u8 x.b4, .int .u8 x.b5] 25)) w') => lie_six w w' _ _ _ _ _ _ w.heap.size 25 rfl k)
  have HST := Lib.hid (And.intro (ho.gro ((Gro.refl none w).alloc (.cells #[.int .u8 x.b0, .int .u8 x.b1, .int .u8 x.b2, .int .u8 x.b3, .int .u8 x.b4, .int .u8 x.b5] 25)) (by simp)) (hg.alloc (.cells #[.int .u8 x.b0, .int .u8 x.b1, .int .u8 x.b2, .int .u8 x.b3, .int .u8 x.b4, .int .u8 x.b5] 25)))
  have hXe : adL x = [x.b0, x.b1, x.b2, x.b3, x.b4, x.b5] := rfl
  have hXl : (adL x).length = 6 := rfl
  rw [← hXe] at HLX
  generalize hX : adL x = X at *
  have HL := Lib.hid hl
  have HXL := Lib.hid hXl
  have hwo : some w.heap.size ≠ v.ownBlock := fun e => by
    have h1 := ho.lt w.heap.size e.symm
    omega
  clear ho hg hl hX hXe hXl
  obtain ⟨x0, x1, x2, x3, x4, x5⟩ := x
  unfold adV
  simp only at *
  go_enter Tryd.func41, Tryd.ntmps41
  go_wp2_with fail
  have hlt : w.heap.size < (w.alloc (.cells #[.int .u8 x0, .int .u8 x1, .int .u8 x2, .int .u8 x3, .int .u8 x4, .int .u8 x5] 25)).heap.size := by simp
  have H0 := Lib.hid (HLX.out _ (Gro.refl none _))
  generalize w.alloc _ = wb at *
  go_loopw [0, 5] (fun v i wr => ∃ k : Nat, k ≤ 6 ∧ i = .int .i64 k ∧ Own w0.heap.size wr v (L ++ X.take k) ∧ Gro none w0 wr ∧ (wr.heap[w.heap.size]? = wb.heap[w.heap.size]? ∧ some w.heap.size ≠ v.ownBlock ∧ w.heap.size < wr.heap.size)) (fun _ i _ => 6 - (intOf i).toNat)
  case atStart => exact ⟨0, by decide, rfl, by simpa using HST.out.1, HST.out.2, rfl, hwo, hlt⟩
  case round =>
    obtain ⟨k, hk, rfl, ho, hg, ⟨h51, h52, h53⟩⟩ := hrel
    have HO := Lib.hid ho
    have HG := Lib.hid hg
    clear ho hg HST
    by_cases h6 : k < 6
    · have cx : wr.cell? ⟨w.heap.size, k, none⟩ = some (.int .u8 (X.getD k 0)) := by
        rw [World.cell?_of_block (w := wb) h51]
        have := lieA_cell H0.out k (by have := HXL.out; omega)
        rwa [Nat.zero_add] at this
      have H51 := Lib.hid (And.intro h51 h52)
      have i0 : (0 : Int) ≤ (k : Int) := by omega
      have i1 : (k : Int) < 6 := by omega
      have HT := Lib.hid (take_one X k (by have := HXL.out; omega))
      have HLT : Hid ((X.take k).length = k) := by have := HXL.out; unfold Hid; simp; omega
      generalize hy : X.getD k 0 = y at cx HT
      have HY := Lib.hid hy
      generalize hYk : X.take k = Xk at HO HLT
      have HYK := Lib.hid hYk
      clear hy hYk h51 h52
      go_wp2_with (at_builtin; refine app_bytes_at rfl _ _ rfl w0 (L ++ Xk) [y] _ rfl ?c1 ?c2 _ _ _ rfl ?c5 ?c3 ?c4 ?_)
      case c1 => exact HO.out.gro ((Gro.refl none _).alloc _) (by simp)
      case c2 => exact HG.out.alloc _
      case c5 => rfl
      case c3 => exact lie_one wr _ _ _ rfl (Gro.refl _ _)
      case c4 => have := HLT.out; have := HL.out; simp; omega
      intro v2 w2 ho2 hg2 hf2
      have HO2 := Lib.hid ho2
      have h6 := hf2 w.heap.size (by first | omega | (simp; omega)) H51.out.2
      rw [Below.heap_alloc _ _ _ h53] at h6
      have HG2 := Lib.hid (And.intro hg2 (show w2.heap[w.heap.size]? = wb.heap[w.heap.size]? ∧ some w.heap.size ≠ v2.ownBlock ∧ w.heap.size < w2.heap.size from ⟨h6.1.trans H51.out.1, h6.2, by
        rcases Nat.lt_or_ge w.heap.size w2.heap.size with h | h
        · exact h
        · have := h6.1.trans H51.out.1
          rw [Array.getElem?_eq_none h, Array.getElem?_eq_getElem hlt] at this; cases this⟩))
      clear ho2 hg2 HO HG hf2 h6 H51 cx
      go_wp2_with fail
      go_roundw
      case rel => exact ⟨k + 1, by omega, by go_num, by rw [HT.out, HYK.out]; simpa using HO2.out, HG2.out.1, HG2.out.2⟩
      case measure => simp [intOf]; omega
    · obtain rfl : k = 6 := by omega
      go_wp2_with fail
      go_ret
      exact ⟨_, rfl, by have := HO.out; rwa [List.take_of_length_le (by have := HXL.out; omega)] at this, HG.out⟩

set_option maxHeartbeats 2000000 in
theorem radd_bad (to fr bs : Ad) (ans : Bool) (tok tid size tmo seq st : Int) (w : World) (h : ¬ okA ans tok tid size tmo seq st) :
    Calls Tryd.prog 14 #[addV to fr bs ans tok tid size tmo seq st] w fun e w' => e = .returned (.tuple #[.slice none 0 0, .int .i64 103]) ∧ Gro none w w' := by
  obtain ⟨t0, t1, t2, t3, t4, t5⟩ := to
  obtain ⟨f0, f1, f2, f3, f4, f5⟩ := fr
  obtain ⟨b0, b1, b2, b3, b4, b5⟩ := bs
  unfold addV
  simp only
  have Htok := Lib.hid (fun w => out_any tok 255 w)
  have Htid := Lib.hid (fun w => out_any tid 7 w)
  have Hsize := Lib.hid (fun w => out_any size 1023 w)
  have Htmo := Lib.hid (fun w => out_any tmo 65535 w)
  have Hst := Lib.hid (fun w => out_any st 65535 w)
  have Hseq := Lib.hid (fun w => out_any seq 4095 w)
  have hd : ¬ ((decide (0 ≤ tok ∧ tok ≤ 255) && decide (0 ≤ tid ∧ tid ≤ 7) && decide (0 ≤ size ∧ size ≤ 1023) && decide (0 ≤ tmo ∧ tmo ≤ 65535) && decide (0 ≤ st ∧ st ≤ 65535) && decide (0 ≤ seq ∧ seq ≤ 4095)) = true ∧ (ans = false → st = 0) ∧ (ans = true → seq = 0)) := by
    intro h'
    apply h
    simp only [Bool.and_eq_true, decide_eq_true_eq] at h'
    unfold okA
    obtain ⟨⟨⟨⟨⟨⟨h1, h2⟩, h3⟩, h4⟩, h5⟩, h6⟩, h7, h8⟩ := h'
    exact ⟨h1, h2, h3, h4, h5, h6, h7, h8⟩
  clear h
  generalize decide (0 ≤ tok ∧ tok ≤ 255) = ptok at *
  generalize decide (0 ≤ tid ∧ tid ≤ 7) = ptid at *
  generalize decide (0 ≤ size ∧ size ≤ 1023) = psize at *
  generalize decide (0 ≤ tmo ∧ tmo ≤ 65535) = ptmo at *
  generalize decide (0 ≤ st ∧ st ≤ 65535) = pst at *
  generalize decide (0 ≤ seq ∧ seq ≤ 4095) = pseq at *
  go_enter Tryd.func14, Tryd.ntmps14
  go_wp2_with fail
  refine (Htok.out _).mono ?_
  rintro e w' ⟨rfl, rfl⟩
  cases ptok
  · clear hd
    go_wp2_with fail
    go_ret2
    exact ⟨rfl, (Gro.refl _ _).alloc _⟩
  go_wp2_with fail
  refine (Htid.out _).mono ?_
  rintro e w' ⟨rfl, rfl⟩
  cases ptid
  · clear hd
    go_wp2_with fail
    go_ret2
    exact ⟨rfl, (Gro.refl _ _).alloc _⟩
  go_wp2_with fail
  refine (Hsize.out _).mono ?_
  rintro e w' ⟨rfl, rfl⟩
  cases psize
  · clear hd
    go_wp2_with fail
    go_ret2
    exact ⟨rfl, (Gro.refl _ _).alloc _⟩
  go_wp2_with fail
  refine (Htmo.out _).mono ?_
  rintro e w' ⟨rfl, rfl⟩
  cases ptmo
  · clear hd
    go_wp2_with fail
    go_ret2
    exact ⟨rfl, (Gro.refl _ _).alloc _⟩
  go_wp2_with fail
  refine (Hst.out _).mono ?_
  rintro e w' ⟨rfl, rfl⟩
  cases pst
  · clear hd
    go_wp2_with fail
    go_ret2
    exact ⟨rfl, (Gro.refl _ _).alloc _⟩
  go_wp2_with fail
  refine (Hseq.out _).mono ?_
  rintro e w' ⟨rfl, rfl⟩
  cases pseq
  · clear hd
    go_wp2_with fail
    go_ret2
    exact ⟨rfl, (Gro.refl _ _).alloc _⟩
  cases ans
  · have h0 : ¬ st = 0 := fun e => hd ⟨rfl, fun _ => e, fun h => by cases h⟩
    have h1 : (st == 0) = false := by simpa using h0
    have h2 : (st != 0) = true := by simpa using h0
    clear hd
    go_wp2_with fail
    go_ret2
    exact ⟨rfl, (Gro.refl _ _).alloc _⟩
  · have h0 : ¬ seq = 0 := fun e => hd ⟨rfl, fun h => (by cases h), fun _ => e⟩
    have h1 : (seq == 0) = false := by simpa using h0
    have h2 : (seq != 0) = true := by simpa using h0
    clear hd
    go_wp2_with fail
    go_ret2
    exact ⟨rfl, (Gro.refl _ _).alloc _⟩

set_option maxHeartbeats 2000000 in
theorem rdel_bad (to fr bs : Ad) (mine : Bool) (tid reason : Int) (w : World) (h : ¬ okD tid reason) :
    Calls Tryd.prog 15 #[delV to fr bs mine tid reason] w fun e w' => e = .returned (.tuple #[.slice none 0 0, .int .i64 103]) ∧ Gro none w w' := by
  obtain ⟨t0, t1, t2, t3, t4, t5⟩ := to
  obtain ⟨f0, f1, f2, f3, f4, f5⟩ := fr
  obtain ⟨b0, b1, b2, b3, b4, b5⟩ := bs
  unfold delV
  simp only
  by_cases ht : 0 ≤ tid ∧ tid ≤ 7
  · have HT := Lib.hid (fun w => out_any tid 7 w)
    have HR := Lib.hid (fun w => out_any reason 65535 w)
    rw [decide_eq_true ht] at HT
    rw [decide_eq_false (fun h' => h ⟨ht, h'⟩)] at HR
    clear h ht
    go_enter Tryd.func15, Tryd.ntmps15
    go_wp2_with fail
    refine (HT.out _).mono ?_
    rintro e w' ⟨rfl, rfl⟩
    go_wp2_with fail
    refine (HR.out _).mono ?_
    rintro e w' ⟨rfl, rfl⟩
    go_wp2_with fail
    go_ret2
    exact ⟨rfl, (Gro.refl _ _).alloc _⟩
  · have HT := Lib.hid (fun w => out_any tid 7 w)
    rw [decide_eq_false ht] at HT
    clear h ht
    go_enter Tryd.func15, Tryd.ntmps15
    go_wp2_with fail
    refine (HT.out _).mono ?_
    rintro e w' ⟨rfl, rfl⟩
    go_wp2_with fail
    go_ret2
    exact ⟨rfl, (Gro.refl _ _).alloc _⟩

theorem lie_three (w : World) (x y z : Int) (b : Nat) (hb : b = w.heap.size) : LieA (w.alloc (.cells #[.int .u8 x, .int .u8 y, .int .u8 z] 5)) ⟨b, 0, none⟩ [x, y, z] := by
  subst hb
  intro j hj
  have hadd : (⟨w.heap.size, 0, none⟩ : Addr).add j = ⟨w.heap.size, j, none⟩ := by unfold Addr.add; split <;> simp_all
  rw [hadd, cell_of_row _ _ _ _ _ _ (heap_alloc_new w _)]
  simp at hj
  rcases (show j = 0 ∨ j = 1 ∨ j = 2 from by omega) with rfl | rfl | rfl <;> rfl
def headL (to fr bs : Ad) : List Int := [208, 0, 0, 0] ++ adL to ++ adL fr ++ adL bs
theorem headL_len (to fr bs : Ad) : (headL to fr bs).length = 22 := by simp [headL, adL]
theorem three_alloc {w w' : World} {o0 o1 o2 : Obj} (h : ((w.alloc o0).alloc o1).alloc o2 = w') : Gro none w w' ∧ w'.heap[w.heap.size]? = some o0 ∧ w'.heap[w.heap.size + 1]? = some o1 ∧ w'.heap[w.heap.size + 1 + 1]? = some o2 := by
  subst h
  have hsz : ∀ (w : World) (o : Obj), (w.alloc o).heap.size = w.heap.size + 1 := fun w o => by simp
  have hn : ∀ (w : World) (o : Obj) (k : Nat), w.heap.size = k → (w.alloc o).heap[k]? = some o := fun w o k e => e ▸ heap_alloc_new w o
  have hu : ∀ (w : World) (o u : Obj) (k : Nat), k < w.heap.size → w.heap[k]? = some u → (w.alloc o).heap[k]? = some u := fun w o u k hk h => (Below.heap_alloc _ _ _ hk).trans h
  refine ⟨(((Gro.refl _ _).alloc _).alloc _).alloc _, ?_, ?_, ?_⟩
  · iterate 2 (refine hu _ _ _ _ (by simp only [hsz]; omega) ?_)
    exact hn _ _ _ rfl
  · refine hu _ _ _ _ (by simp only [hsz]; omega) ?_
    exact hn _ _ _ (by simp only [hsz])
  · exact hn _ _ _ (by simp only [hsz])
set_option maxHeartbeats 2000000 in
set_option maxRecDepth 100000 in
theorem rhead_any (w0 : World) (to fr bs : Ad) (w : World) (hw : Gro none w0 w) : Calls Tryd.prog 32 #[adV to, adV fr, adV bs] w fun e w' => ∃ v, e = .returned v ∧ Own w0.heap.size w' v (headL to fr bs ++ [0, 0, 3]) ∧ Gro none w0 w' := by
  have HW := Lib.hid hw
  clear hw
  unfold headL
  obtain ⟨t0, t1, t2, t3, t4, t5⟩ := to
  obtain ⟨f0, f1, f2, f3, f4, f5⟩ := fr
  obtain ⟨b0, b1, b2, b3, b4, b5⟩ := bs
  unfold adV
  simp only
  obtain ⟨LA, hLA⟩ : ∃ L, L = [208, 0, 0, 0] ++ adL ⟨t0, t1, t2, t3, t4, t5⟩ := ⟨_, rfl⟩
  obtain ⟨LB, hLB⟩ : ∃ L, L = LA ++ adL ⟨f0, f1, f2, f3, f4, f5⟩ := ⟨_, rfl⟩
  obtain ⟨LC, hLC⟩ : ∃ L, L = LB ++ adL ⟨b0, b1, b2, b3, b4, b5⟩ := ⟨_, rfl⟩
  have HLL : Hid (LA.length = 10 ∧ LB.length = 16 ∧ LC.length = 22) := by
    subst hLA
    subst hLB
    subst hLC
    exact ⟨by simp [adL], by simp [adL], by simp [adL]⟩
  rw [← hLA, ← hLB, ← hLC]
  have HLA := Lib.hid hLA
  have HLB := Lib.hid hLB
  have HLC := Lib.hid hLC
  clear hLA hLB hLC
  go_enter Tryd.func32, Tryd.ntmps32
  go_wp2_with fail
  obtain ⟨hg, h0, h1, h2⟩ := three_alloc (w := w) (o0 := .cells #[.int .u8 t0, .int .u8 t1, .int .u8 t2, .int .u8 t3, .int .u8 t4, .int .u8 t5] 25) (o1 := .cells #[.int .u8 f0, .int .u8 f1, .int .u8 f2, .int .u8 f3, .int .u8 f4, .int .u8 f5] 25) (o2 := .cells #[.int .u8 b0, .int .u8 b1, .int .u8 b2, .int .u8 b3, .int .u8 b4, .int .u8 b5] 25) rfl
  generalize (((w.alloc (.cells #[.int .u8 t0, .int .u8 t1, .int .u8 t2, .int .u8 t3, .int .u8 t4, .int .u8 t5] 25)).alloc (.cells #[.int .u8 f0, .int .u8 f1, .int .u8 f2, .int .u8 f3, .int .u8 f4, .int .u8 f5] 25)).alloc (.cells #[.int .u8 b0, .int .u8 b1, .int .u8 b2, .int .u8 b3, .int .u8 b4, .int .u8 b5] 25)) = wb at *
  have HG := Lib.hid hg
  have H0 := Lib.hid (fun w' (k : Gro none wb w') => (k.block _ (blk_in h0) (by simp)).trans h0)
  have H1 := Lib.hid (fun w' (k : Gro none wb w') => (k.block _ (blk_in h1) (by simp)).trans h1)
  have H2 := Lib.hid (fun w' (k : Gro none wb w') => (k.block _ (blk_in h2) (by simp)).trans h2)
  clear hg h0 h1 h2
  refine wp_region_K wb (Gro.refl _ _) (.slice none 0 0) [] [(6, 14, LC), (4, 12, LB), (2, 10, LA), (0, 8, [208, 0, 0, 0])] 99 99 98 0 #[] (by kernel_rfl) (by kernel_rfl) (rc_skip (by kernel_rfl) (rc_skip (by kernel_rfl) (rc_skip (by kernel_rfl) (rc_skip (by kernel_rfl) (Own.none_ _ _))))) ?_
  refine kY (i := 1) (x := 9) (v := .agg #[.int .u8 t0, .int .u8 t1, .int .u8 t2, .int .u8 t3, .int .u8 t4, .int .u8 t5]) rfl (by rfl) (by decide) (by decide) (by decide) (by kernel_rfl) (by kernel_rfl) (by kernel_rfl) (fun _ _ _ h => h) (fun w' k => run_row 25 _ rfl _ rfl _ _ (H0.out w' k) _ Tryd.underlying25 rfl (by kernel_rfl)) ?_
  simp only [Act.put, List.setIfInBounds_toArray, List.set_cons_zero, List.set_cons_succ]
  refine kY (i := 3) (x := 11) (v := .agg #[.int .u8 f0, .int .u8 f1, .int .u8 f2, .int .u8 f3, .int .u8 f4, .int .u8 f5]) rfl (by rfl) (by decide) (by decide) (by decide) (by kernel_rfl) (by kernel_rfl) (by kernel_rfl) (fun _ _ _ h => h) (fun w' k => run_row 25 _ rfl _ rfl _ _ (H1.out w' k) _ Tryd.underlying25 rfl (by kernel_rfl)) ?_
  simp only [Act.put, List.setIfInBounds_toArray, List.set_cons_zero, List.set_cons_succ]
  refine kY (i := 5) (x := 13) (v := .agg #[.int .u8 b0, .int .u8 b1, .int .u8 b2, .int .u8 b3, .int .u8 b4, .int .u8 b5]) rfl (by rfl) (by decide) (by decide) (by decide) (by kernel_rfl) (by kernel_rfl) (by kernel_rfl) (fun _ _ _ h => h) (fun w' k => run_row 25 _ rfl _ rfl _ _ (H2.out w' k) _ Tryd.underlying25 rfl (by kernel_rfl)) ?_
  simp only [Act.put, List.setIfInBounds_toArray, List.set_cons_zero, List.set_cons_succ]
  refine kB (i := 0) (x := 8) [208, 0, 0, 0] rfl (by kernel_rfl) (by kernel_rfl) (by decide) (by intro w'; go_simp) rfl rfl (by simp) (fun w' v' ho => (rc_skip (by kernel_rfl) (rc_skip (by kernel_rfl) (rc_skip (by kernel_rfl) (rc_mk (by kernel_rfl) rfl ho))))) ?_
  intro v0
  simp only [Act.put, List.setIfInBounds_toArray, List.set_cons_zero, List.set_cons_succ]
  refine kL (i := 2) (x := 10) 41 #[v0, .agg #[.int .u8 t0, .int .u8 t1, .int .u8 t2, .int .u8 t3, .int .u8 t4, .int .u8 t5]] (LA) rfl (by kernel_rfl) (.inl (by kernel_rfl)) (by decide) (by decide) (by intro w'; go_simp) (fun w' hg hk => HLA.out ▸ raddr_any wb [208, 0, 0, 0] v0 ⟨t0, t1, t2, t3, t4, t5⟩ w' (rc_use (rc_next (rc_next (rc_next hk (by kernel_rfl)) (by kernel_rfl)) (by kernel_rfl)) (by kernel_rfl) rfl) hg (by simp)) (fun w' v' ho => (rc_skip (by kernel_rfl) (rc_skip (by kernel_rfl) (rc_mk (by kernel_rfl) rfl ho)))) ?_
  intro v1
  simp only [Act.put, List.setIfInBounds_toArray, List.set_cons_zero, List.set_cons_succ]
  refine kL (i := 4) (x := 12) 41 #[v1, .agg #[.int .u8 f0, .int .u8 f1, .int .u8 f2, .int .u8 f3, .int .u8 f4, .int .u8 f5]] (LB) rfl (by kernel_rfl) (.inl (by kernel_rfl)) (by decide) (by decide) (by intro w'; go_simp) (fun w' hg hk => HLB.out ▸ raddr_any wb LA v1 ⟨f0, f1, f2, f3, f4, f5⟩ w' (rc_use (rc_next (rc_next hk (by kernel_rfl)) (by kernel_rfl)) (by kernel_rfl) rfl) hg (by have := HLL.out; omega)) (fun w' v' ho => (rc_skip (by kernel_rfl) (rc_mk (by kernel_rfl) rfl ho))) ?_
  intro v2
  simp only [Act.put, List.setIfInBounds_toArray, List.set_cons_zero, List.set_cons_succ]
  refine kL (i := 6) (x := 14) 41 #[v2, .agg #[.int .u8 b0, .int .u8 b1, .int .u8 b2, .int .u8 b3, .int .u8 b4, .int .u8 b5]] (LC) rfl (by kernel_rfl) (.inl (by kernel_rfl)) (by decide) (by decide) (by intro w'; go_simp) (fun w' hg hk => HLC.out ▸ raddr_any wb LB v2 ⟨b0, b1, b2, b3, b4, b5⟩ w' (rc_use (rc_next hk (by kernel_rfl)) (by kernel_rfl) rfl) hg (by have := HLL.out; omega)) (fun w' v' ho => (rc_mk (by kernel_rfl) rfl ho)) ?_
  intro v3
  simp only [Act.put, List.setIfInBounds_toArray, List.set_cons_zero, List.set_cons_succ]
  refine kY (i := 7) (x := 7) (v := v3) rfl (by rfl) (by decide) (by decide) (by decide) (by kernel_rfl) (by kernel_rfl) (by kernel_rfl) (fun _ _ _ h => h) (by intro w' k; go_simp) ?_
  simp only [Act.put, List.setIfInBounds_toArray, List.set_cons_zero, List.set_cons_succ]
  refine wpAnyS_done (by kernel_rfl) fun w6 hw6 => ?_
  have HO := Lib.hid (rc_use hw6.2.1 (by kernel_rfl) rfl)
  have HG6 := Lib.hid hw6.1
  clear hw6 H0 H1 H2
  go_wp2_with (at_builtin; refine app_bytes rfl _ _ rfl wb LC [0, 0, 3] _ rfl ?c1 ?c2 _ _ _ rfl rfl ?c3 ?c4 ?_)
  case c1 => exact HO.out.gro ((Gro.refl none _).alloc _) (by simp)
  case c2 => exact HG6.out.alloc _
  case c3 => exact lie_three w6 _ _ _ _ rfl
  case c4 => have := HLL.out; omega
  intro v' w' hown hgro
  have HO7 := Lib.hid hown
  have HG7 := Lib.hid hgro
  clear hown hgro
  go_wp2_with fail
  go_ret
  exact ⟨_, rfl, HO7.out.weak (HW.out.trans HG.out).size, HW.out.trans (HG.out.trans HG7.out)⟩

set_option maxHeartbeats 4000000 in
set_option maxRecDepth 100000 in
theorem radd_ans (to fr bs : Ad) (tok tid size tmo st : Int) (w : World) (h : okA true tok tid size tmo 0 st) :
    Calls Tryd.prog 14 #[addV to fr bs true tok tid size tmo 0 st] w fun e w' => ∃ v, e = .returned (.tuple #[v, .int .i64 0]) ∧ Gro none w w' ∧ Own w.heap.size w' v (addL to fr bs true tok tid size tmo 0 st) := by
  obtain ⟨⟨h1, h1'⟩, ⟨h2, h2'⟩, ⟨h3, h3'⟩, ⟨h4, h4'⟩, ⟨h5, h5'⟩, ⟨h6, h6'⟩, -, -⟩ := h
  have HO1 := Lib.hid (fun w => out_any tok 255 w)
  have HO2 := Lib.hid (fun w => out_any tid 7 w)
  have HO3 := Lib.hid (fun w => out_any size 1023 w)
  have HO4 := Lib.hid (fun w => out_any tmo 65535 w)
  have HO5 := Lib.hid (fun w => out_any st 65535 w)
  have HO6 := Lib.hid (fun w => out_any 0 4095 w)
  rw [decide_eq_true ⟨h1, h1'⟩] at HO1
  rw [decide_eq_true ⟨h2, h2'⟩] at HO2
  rw [decide_eq_true ⟨h3, h3'⟩] at HO3
  rw [decide_eq_true ⟨h4, h4'⟩] at HO4
  rw [decide_eq_true ⟨h5, h5'⟩] at HO5
  rw [decide_eq_true ⟨h6, h6'⟩] at HO6
  have u1 : IntKind.u8.wrap tok = tok := by rw [IntKind.wrap_u8]; omega
  have u2 : IntKind.i64.wrap (tid * 4) = tid * 4 := by rw [IntKind.wrap_i64]; omega
  have u3 : IntKind.i64.wrap (2 + tid * 4) = 2 + tid * 4 := by rw [IntKind.wrap_i64]; omega
  have u4 : IntKind.i64.wrap (size * 64) = size * 64 := by rw [IntKind.wrap_i64]; omega
  have u5 : IntKind.i64.wrap (2 + tid * 4 + size * 64) = 2 + tid * 4 + size * 64 := by rw [IntKind.wrap_i64]; omega
  obtain ⟨t0, t1, t2, t3, t4, t5⟩ := to
  obtain ⟨f0, f1, f2, f3, f4, f5⟩ := fr
  obtain ⟨b0, b1, b2, b3, b4, b5⟩ := bs
  have HRES : Hid (addL ⟨t0, t1, t2, t3, t4, t5⟩ ⟨f0, f1, f2, f3, f4, f5⟩ ⟨b0, b1, b2, b3, b4, b5⟩ true tok tid size tmo 0 st = (headL ⟨t0, t1, t2, t3, t4, t5⟩ ⟨f0, f1, f2, f3, f4, f5⟩ ⟨b0, b1, b2, b3, b4, b5⟩ ++ [0, 0, 3]) ++ [1, tok] ++ twoL st ++ twoL (2 + tid * 4 + size * 64) ++ twoL tmo) := by
    unfold Hid addL frontL headL
    simp
  have HHD := Lib.hid (fun (w0 w : World) (hw : Gro none w0 w) => rhead_any w0 ⟨t0, t1, t2, t3, t4, t5⟩ ⟨f0, f1, f2, f3, f4, f5⟩ ⟨b0, b1, b2, b3, b4, b5⟩ w hw)
  have hhl : (headL ⟨t0, t1, t2, t3, t4, t5⟩ ⟨f0, f1, f2, f3, f4, f5⟩ ⟨b0, b1, b2, b3, b4, b5⟩ ++ [0, 0, 3]).length = 25 := by rw [List.length_append, headL_len]; rfl
  obtain ⟨L0, hL0⟩ : ∃ L, L = (headL ⟨t0, t1, t2, t3, t4, t5⟩ ⟨f0, f1, f2, f3, f4, f5⟩ ⟨b0, b1, b2, b3, b4, b5⟩ ++ [0, 0, 3]) := ⟨_, rfl⟩
  rw [← hL0] at HHD HRES hhl
  obtain ⟨LA, hLA⟩ : ∃ L, L = L0 ++ [1, tok] := ⟨_, rfl⟩
  obtain ⟨LB, hLB⟩ : ∃ L, L = LA ++ twoL (st) := ⟨_, rfl⟩
  obtain ⟨LC, hLC⟩ : ∃ L, L = LB ++ twoL (2 + tid * 4 + size * 64) := ⟨_, rfl⟩
  obtain ⟨LD, hLD⟩ : ∃ L, L = LC ++ twoL (tmo) := ⟨_, rfl⟩
  have HLL : Hid (L0.length = 25 ∧ LA.length = 27 ∧ LB.length = 29 ∧ LC.length = 31) := by
    subst hLA
    subst hLB
    subst hLC
    exact ⟨hhl, by simp [hhl], by simp [hhl, twoL], by simp [hhl, twoL]⟩
  have HRES' : Hid (LD = addL ⟨t0, t1, t2, t3, t4, t5⟩ ⟨f0, f1, f2, f3, f4, f5⟩ ⟨b0, b1, b2, b3, b4, b5⟩ true tok tid size tmo 0 st) := by
    unfold Hid
    rw [HRES.out, hLD, hLC, hLB, hLA]
  have HLA := Lib.hid hLA
  have HLB := Lib.hid hLB
  have HLC := Lib.hid hLC
  have HLD := Lib.hid hLD
  have HB2 : Hid (0 ≤ 2 + tid * 4 + size * 64 ∧ 2 + tid * 4 + size * 64 < 65536) := by unfold Hid; omega
  have HB3 : Hid (0 ≤ tmo ∧ tmo < 65536) := by unfold Hid; omega
  have HB1 : Hid (0 ≤ st ∧ st < 65536) := by unfold Hid; omega
  clear hLA hLB hLC hLD hL0 hhl HRES
  unfold addV
  unfold adV at HHD
  simp only at HHD ⊢
  go_enter Tryd.func14, Tryd.ntmps14
  go_wp2_with fail
  have hgb : Gro none w (w.alloc (.cells #[.int .u8 t0, .int .u8 t1, .int .u8 t2, .int .u8 t3, .int .u8 t4, .int .u8 t5, .int .u8 f0, .int .u8 f1, .int .u8 f2, .int .u8 f3, .int .u8 f4, .int .u8 f5, .int .u8 b0, .int .u8 b1, .int .u8 b2, .int .u8 b3, .int .u8 b4, .int .u8 b5, .bool true, .int .i64 tok, .int .i64 tid, .int .i64 size, .int .i64 tmo, .int .i64 0, .int .i64 st] 27)) := (Gro.refl _ _).alloc _
  have hbx := heap_alloc_new w (.cells #[.int .u8 t0, .int .u8 t1, .int .u8 t2, .int .u8 t3, .int .u8 t4, .int .u8 t5, .int .u8 f0, .int .u8 f1, .int .u8 f2, .int .u8 f3, .int .u8 f4, .int .u8 f5, .int .u8 b0, .int .u8 b1, .int .u8 b2, .int .u8 b3, .int .u8 b4, .int .u8 b5, .bool true, .int .i64 tok, .int .i64 tid, .int .i64 size, .int .i64 tmo, .int .i64 0, .int .i64 st] 27)
  have hlw : w.heap.size < (w.alloc (.cells #[.int .u8 t0, .int .u8 t1, .int .u8 t2, .int .u8 t3, .int .u8 t4, .int .u8 t5, .int .u8 f0, .int .u8 f1, .int .u8 f2, .int .u8 f3, .int .u8 f4, .int .u8 f5, .int .u8 b0, .int .u8 b1, .int .u8 b2, .int .u8 b3, .int .u8 b4, .int .u8 b5, .bool true, .int .i64 tok, .int .i64 tid, .int .i64 size, .int .i64 tmo, .int .i64 0, .int .i64 st] 27)).heap.size := by simp
  generalize w.alloc (.cells #[.int .u8 t0, .int .u8 t1, .int .u8 t2, .int .u8 t3, .int .u8 t4, .int .u8 t5, .int .u8 f0, .int .u8 f1, .int .u8 f2, .int .u8 f3, .int .u8 f4, .int .u8 f5, .int .u8 b0, .int .u8 b1, .int .u8 b2, .int .u8 b3, .int .u8 b4, .int .u8 b5, .bool true, .int .i64 tok, .int .i64 tid, .int .i64 size, .int .i64 tmo, .int .i64 0, .int .i64 st] 27) = wb at *
  have HBX := Lib.hid (fun w' (k : Gro none wb w') => (k.block w.heap.size hlw (by simp)).trans hbx)
  have HG := Lib.hid hgb
  have HLW := Lib.hid hlw
  have c0 := cell_of_row wb w.heap.size 0 _ _ _ hbx
  have c1 := cell_of_row wb w.heap.size 1 _ _ _ hbx
  have c2 := cell_of_row wb w.heap.size 2 _ _ _ hbx
  have c3 := cell_of_row wb w.heap.size 3 _ _ _ hbx
  have c4 := cell_of_row wb w.heap.size 4 _ _ _ hbx
  have c5 := cell_of_row wb w.heap.size 5 _ _ _ hbx
  have c6 := cell_of_row wb w.heap.size 6 _ _ _ hbx
  have c7 := cell_of_row wb w.heap.size 7 _ _ _ hbx
  have c8 := cell_of_row wb w.heap.size 8 _ _ _ hbx
  have c9 := cell_of_row wb w.heap.size 9 _ _ _ hbx
  have c10 := cell_of_row wb w.heap.size 10 _ _ _ hbx
  have c11 := cell_of_row wb w.heap.size 11 _ _ _ hbx
  have c12 := cell_of_row wb w.heap.size 12 _ _ _ hbx
  have c13 := cell_of_row wb w.heap.size 13 _ _ _ hbx
  have c14 := cell_of_row wb w.heap.size 14 _ _ _ hbx
  have c15 := cell_of_row wb w.heap.size 15 _ _ _ hbx
  have c16 := cell_of_row wb w.heap.size 16 _ _ _ hbx
  have c17 := cell_of_row wb w.heap.size 17 _ _ _ hbx
  have c18 := cell_of_row wb w.heap.size 18 _ _ _ hbx
  have c19 := cell_of_row wb w.heap.size 19 _ _ _ hbx
  have c20 := cell_of_row wb w.heap.size 20 _ _ _ hbx
  have c21 := cell_of_row wb w.heap.size 21 _ _ _ hbx
  have c22 := cell_of_row wb w.heap.size 22 _ _ _ hbx
  have c23 := cell_of_row wb w.heap.size 23 _ _ _ hbx
  have c24 := cell_of_row wb w.heap.size 24 _ _ _ hbx
  simp only [List.getElem?_toArray, List.getElem?_cons_zero, List.getElem?_cons_succ] at c0 c1 c2 c3 c4 c5 c6 c7 c8 c9 c10 c11 c12 c13 c14 c15 c16 c17 c18 c19 c20 c21 c22 c23 c24
  clear hgb hbx hlw
  refine (HO1.out _).mono ?_
  rintro e w' ⟨rfl, rfl⟩
  go_wp2_with fail
  refine (HO2.out _).mono ?_
  rintro e w' ⟨rfl, rfl⟩
  go_wp2_with fail
  refine (HO3.out _).mono ?_
  rintro e w' ⟨rfl, rfl⟩
  go_wp2_with fail
  refine (HO4.out _).mono ?_
  rintro e w' ⟨rfl, rfl⟩
  go_wp2_with fail
  refine (HO5.out _).mono ?_
  rintro e w' ⟨rfl, rfl⟩
  go_wp2_with fail
  refine (HO6.out _).mono ?_
  rintro e w' ⟨rfl, rfl⟩
  go_wp2_with fail
  clear HO1 HO2 HO3 HO4 HO5 HO6
  refine (HHD.out wb wb (Gro.refl _ _)).mono ?_
  rintro e w2 ⟨v0, rfl, ho0, hg0⟩
  have HO0 := Lib.hid ho0
  have HG0 := Lib.hid hg0
  clear ho0 hg0 HHD c0 c1 c2 c3 c4 c5 c6 c7 c8 c9 c10 c11 c12 c13 c14 c15 c16 c17 c18 c19 c20 c21 c22 c23 c24
  have c18 := cell_of_row w2 w.heap.size 18 _ _ _ (HBX.out w2 HG0.out)
  simp only [List.getElem?_toArray, List.getElem?_cons_zero, List.getElem?_cons_succ] at c18
  go_wp2_with fail
  clear c18
  refine wp_region_K wb HG0.out v0 L0 [(20, 81, LD), (17, 78, LC), (8, 69, LB), (5, 66, LA)] 4 65 5 2 #[.int .u8 1, .int .u8 tok] (by kernel_rfl) (by kernel_rfl) (rc_skip (by kernel_rfl) (rc_skip (by kernel_rfl) (rc_skip (by kernel_rfl) (rc_skip (by kernel_rfl) (HO0.out.gro ((Gro.refl none w2).drew) (by simp)))))) ?_
  refine kY (i := 0) (x := 61) (v := v0) rfl (by rfl) (by decide) (by decide) (by decide) (by kernel_rfl) (by kernel_rfl) (by kernel_rfl) (fun _ _ _ h => h) (by intro w' k; go_simp) ?_
  simp only [Act.put, List.setIfInBounds_toArray, List.set_cons_zero, List.set_cons_succ]
  refine kY (i := 1) (x := 62) (v := .pointer (some ⟨w.heap.size, 19, none⟩)) rfl (by rfl) (by decide) (by decide) (by decide) (by kernel_rfl) (by kernel_rfl) (by kernel_rfl) (fun _ _ _ h => h) (by intro w' k; go_simp) ?_
  simp only [Act.put, List.setIfInBounds_toArray, List.set_cons_zero, List.set_cons_succ]
  refine kY (i := 2) (x := 63) (v := .int .i64 tok) rfl (by rfl) (by decide) (by decide) (by decide) (by kernel_rfl) (by kernel_rfl) (by kernel_rfl) (fun _ _ _ h => h) (by intro w' k; have hq := cell_of_row w' w.heap.size 19 _ _ _ (HBX.out w' k); simp only [List.getElem?_toArray, List.getElem?_cons_zero, List.getElem?_cons_succ] at hq; clear k; go_simp) ?_
  simp only [Act.put, List.setIfInBounds_toArray, List.set_cons_zero, List.set_cons_succ]
  refine kY (i := 3) (x := 64) (v := .int .u8 tok) rfl (by rfl) (by decide) (by decide) (by decide) (by kernel_rfl) (by kernel_rfl) (by kernel_rfl) (fun _ _ _ h => h) (by intro w' k; go_simp) ?_
  simp only [Act.put, List.setIfInBounds_toArray, List.set_cons_zero, List.set_cons_succ]
  refine kY (i := 6) (x := 67) (v := .pointer (some ⟨w.heap.size, 24, none⟩)) rfl (by rfl) (by decide) (by decide) (by decide) (by kernel_rfl) (by kernel_rfl) (by kernel_rfl) (fun _ _ _ h => h) (by intro w' k; go_simp) ?_
  simp only [Act.put, List.setIfInBounds_toArray, List.set_cons_zero, List.set_cons_succ]
  refine kY (i := 7) (x := 68) (v := .int .i64 st) rfl (by rfl) (by decide) (by decide) (by decide) (by kernel_rfl) (by kernel_rfl) (by kernel_rfl) (fun _ _ _ h => h) (by intro w' k; have hq := cell_of_row w' w.heap.size 24 _ _ _ (HBX.out w' k); simp only [List.getElem?_toArray, List.getElem?_cons_zero, List.getElem?_cons_succ] at hq; clear k; go_simp) ?_
  simp only [Act.put, List.setIfInBounds_toArray, List.set_cons_zero, List.set_cons_succ]
  refine kY (i := 9) (x := 70) (v := .pointer (some ⟨w.heap.size, 20, none⟩)) rfl (by rfl) (by decide) (by decide) (by decide) (by kernel_rfl) (by kernel_rfl) (by kernel_rfl) (fun _ _ _ h => h) (by intro w' k; go_simp) ?_
  simp only [Act.put, List.setIfInBounds_toArray, List.set_cons_zero, List.set_cons_succ]
  refine kY (i := 10) (x := 71) (v := .int .i64 tid) rfl (by rfl) (by decide) (by decide) (by decide) (by kernel_rfl) (by kernel_rfl) (by kernel_rfl) (fun _ _ _ h => h) (by intro w' k; have hq := cell_of_row w' w.heap.size 20 _ _ _ (HBX.out w' k); simp only [List.getElem?_toArray, List.getElem?_cons_zero, List.getElem?_cons_succ] at hq; clear k; go_simp) ?_
  simp only [Act.put, List.setIfInBounds_toArray, List.set_cons_zero, List.set_cons_succ]
  refine kY (i := 11) (x := 72) (v := .int .i64 (tid * 4)) rfl (by rfl) (by decide) (by decide) (by decide) (by kernel_rfl) (by kernel_rfl) (by kernel_rfl) (fun _ _ _ h => h) (by intro w' k; go_simp) ?_
  simp only [Act.put, List.setIfInBounds_toArray, List.set_cons_zero, List.set_cons_succ]
  refine kY (i := 12) (x := 73) (v := .int .i64 (2 + tid * 4)) rfl (by rfl) (by decide) (by decide) (by decide) (by kernel_rfl) (by kernel_rfl) (by kernel_rfl) (fun _ _ _ h => h) (by intro w' k; go_simp) ?_
  simp only [Act.put, List.setIfInBounds_toArray, List.set_cons_zero, List.set_cons_succ]
  refine kY (i := 13) (x := 74) (v := .pointer (some ⟨w.heap.size, 21, none⟩)) rfl (by rfl) (by decide) (by decide) (by decide) (by kernel_rfl) (by kernel_rfl) (by kernel_rfl) (fun _ _ _ h => h) (by intro w' k; go_simp) ?_
  simp only [Act.put, List.setIfInBounds_toArray, List.set_cons_zero, List.set_cons_succ]
  refine kY (i := 14) (x := 75) (v := .int .i64 size) rfl (by rfl) (by decide) (by decide) (by decide) (by kernel_rfl) (by kernel_rfl) (by kernel_rfl) (fun _ _ _ h => h) (by intro w' k; have hq := cell_of_row w' w.heap.size 21 _ _ _ (HBX.out w' k); simp only [List.getElem?_toArray, List.getElem?_cons_zero, List.getElem?_cons_succ] at hq; clear k; go_simp) ?_
  simp only [Act.put, List.setIfInBounds_toArray, List.set_cons_zero, List.set_cons_succ]
  refine kY (i := 15) (x := 76) (v := .int .i64 (size * 64)) rfl (by rfl) (by decide) (by decide) (by decide) (by kernel_rfl) (by kernel_rfl) (by kernel_rfl) (fun _ _ _ h => h) (by intro w' k; go_simp) ?_
  simp only [Act.put, List.setIfInBounds_toArray, List.set_cons_zero, List.set_cons_succ]
  refine kY (i := 16) (x := 77) (v := .int .i64 (2 + tid * 4 + size * 64)) rfl (by rfl) (by decide) (by decide) (by decide) (by kernel_rfl) (by kernel_rfl) (by kernel_rfl) (fun _ _ _ h => h) (by intro w' k; go_simp) ?_
  simp only [Act.put, List.setIfInBounds_toArray, List.set_cons_zero, List.set_cons_succ]
  refine kY (i := 18) (x := 79) (v := .pointer (some ⟨w.heap.size, 22, none⟩)) rfl (by rfl) (by decide) (by decide) (by decide) (by kernel_rfl) (by kernel_rfl) (by kernel_rfl) (fun _ _ _ h => h) (by intro w' k; go_simp) ?_
  simp only [Act.put, List.setIfInBounds_toArray, List.set_cons_zero, List.set_cons_succ]
  refine kY (i := 19) (x := 80) (v := .int .i64 tmo) rfl (by rfl) (by decide) (by decide) (by decide) (by kernel_rfl) (by kernel_rfl) (by kernel_rfl) (fun _ _ _ h => h) (by intro w' k; have hq := cell_of_row w' w.heap.size 22 _ _ _ (HBX.out w' k); simp only [List.getElem?_toArray, List.getElem?_cons_zero, List.getElem?_cons_succ] at hq; clear k; go_simp) ?_
  simp only [Act.put, List.setIfInBounds_toArray, List.set_cons_zero, List.set_cons_succ]
  refine kS rfl (by kernel_rfl) (by simp) (by rfl) (by intro w'; go_simp) ?_
  intro g5
  simp only [Act.put, List.setIfInBounds_toArray, List.set_cons_zero, List.set_cons_succ]
  refine kA _ _ L0 [1, tok] v0 g5 rfl (by kernel_rfl) (by simp) (by kernel_rfl) (by kernel_rfl) rfl rfl rfl rfl rfl (by have := HLL.out; omega) (fun w' hk => (rc_next (rc_next (rc_next (rc_next hk (by kernel_rfl)) (by kernel_rfl)) (by kernel_rfl)) (by kernel_rfl))) (fun w' v' ho => (rc_skip (by kernel_rfl) (rc_skip (by kernel_rfl) (rc_skip (by kernel_rfl) (rc_mk (by kernel_rfl) rfl (HLA.out.symm ▸ ho)))))) ?_
  intro v1
  simp only [Act.put, List.setIfInBounds_toArray, List.set_cons_zero, List.set_cons_succ]
  refine kL (i := 8) (x := 69) 33 #[v1, .int .i64 (st)] (LB) rfl (by kernel_rfl) (.inr (by kernel_rfl)) (by decide) (by decide) (by intro w'; go_simp) (fun w' hg hk => HLB.out ▸ rtwo_any wb LA v1 (st) w' (rc_use (rc_next (rc_next (rc_next hk (by kernel_rfl)) (by kernel_rfl)) (by kernel_rfl)) (by kernel_rfl) rfl) hg (by have := HLL.out; omega) HB1.out.1 HB1.out.2) (fun w' v' ho => (rc_skip (by kernel_rfl) (rc_skip (by kernel_rfl) (rc_mk (by kernel_rfl) rfl ho)))) ?_
  intro v2
  simp only [Act.put, List.setIfInBounds_toArray, List.set_cons_zero, List.set_cons_succ]
  refine kL (i := 17) (x := 78) 33 #[v2, .int .i64 (2 + tid * 4 + size * 64)] (LC) rfl (by kernel_rfl) (.inr (by kernel_rfl)) (by decide) (by decide) (by intro w'; go_simp) (fun w' hg hk => HLC.out ▸ rtwo_any wb LB v2 (2 + tid * 4 + size * 64) w' (rc_use (rc_next (rc_next hk (by kernel_rfl)) (by kernel_rfl)) (by kernel_rfl) rfl) hg (by have := HLL.out; omega) HB2.out.1 HB2.out.2) (fun w' v' ho => (rc_skip (by kernel_rfl) (rc_mk (by kernel_rfl) rfl ho))) ?_
  intro v3
  simp only [Act.put, List.setIfInBounds_toArray, List.set_cons_zero, List.set_cons_succ]
  refine kL (i := 20) (x := 81) 33 #[v3, .int .i64 (tmo)] (LD) rfl (by kernel_rfl) (.inr (by kernel_rfl)) (by decide) (by decide) (by intro w'; go_simp) (fun w' hg hk => HLD.out ▸ rtwo_any wb LC v3 (tmo) w' (rc_use (rc_next hk (by kernel_rfl)) (by kernel_rfl) rfl) hg (by have := HLL.out; omega) HB3.out.1 HB3.out.2) (fun w' v' ho => (rc_mk (by kernel_rfl) rfl ho)) ?_
  intro v4
  simp only [Act.put, List.setIfInBounds_toArray, List.set_cons_zero, List.set_cons_succ]
  refine kY (i := 21) (x := 2) (v := v4) rfl (by rfl) (by decide) (by decide) (by decide) (by kernel_rfl) (by kernel_rfl) (by kernel_rfl) (fun _ _ _ h => h) (by intro w' k; go_simp) ?_
  simp only [Act.put, List.setIfInBounds_toArray, List.set_cons_zero, List.set_cons_succ]
  refine kY (i := 22) (x := 3) (v := .int .i64 0) rfl (by rfl) (by decide) (by decide) (by decide) (by kernel_rfl) (by kernel_rfl) (by kernel_rfl) (fun _ _ _ h => h) (by intro w' k; go_simp) ?_
  simp only [Act.put, List.setIfInBounds_toArray, List.set_cons_zero, List.set_cons_succ]
  refine wpAnyS_done (by kernel_rfl) fun w6 hw6 => ?_
  have HO := Lib.hid (rc_use hw6.2.1 (by kernel_rfl) rfl)
  have HG6 := Lib.hid hw6.1
  clear hw6
  go_wp2_with fail
  go_ret2
  exact ⟨_, rfl, HG.out.trans HG6.out, HRES'.out ▸ HO.out.weak (Nat.le_of_lt HLW.out)⟩

set_option maxHeartbeats 4000000 in
set_option maxRecDepth 100000 in
theorem radd_asks (to fr bs : Ad) (tok tid size tmo seq : Int) (w : World) (h : okA false tok tid size tmo seq 0) :
    Calls Tryd.prog 14 #[addV to fr bs false tok tid size tmo seq 0] w fun e w' => ∃ v, e = .returned (.tuple #[v, .int .i64 0]) ∧ Gro none w w' ∧ Own w.heap.size w' v (addL to fr bs false tok tid size tmo seq 0) := by
  obtain ⟨⟨h1, h1'⟩, ⟨h2, h2'⟩, ⟨h3, h3'⟩, ⟨h4, h4'⟩, ⟨h5, h5'⟩, ⟨h6, h6'⟩, -, -⟩ := h
  have HO1 := Lib.hid (fun w => out_any tok 255 w)
  have HO2 := Lib.hid (fun w => out_any tid 7 w)
  have HO3 := Lib.hid (fun w => out_any size 1023 w)
  have HO4 := Lib.hid (fun w => out_any tmo 65535 w)
  have HO5 := Lib.hid (fun w => out_any 0 65535 w)
  have HO6 := Lib.hid (fun w => out_any seq 4095 w)
  rw [decide_eq_true ⟨h1, h1'⟩] at HO1
  rw [decide_eq_true ⟨h2, h2'⟩] at HO2
  rw [decide_eq_true ⟨h3, h3'⟩] at HO3
  rw [decide_eq_true ⟨h4, h4'⟩] at HO4
  rw [decide_eq_true ⟨h5, h5'⟩] at HO5
  rw [decide_eq_true ⟨h6, h6'⟩] at HO6
  have u1 : IntKind.u8.wrap tok = tok := by rw [IntKind.wrap_u8]; omega
  have u2 : IntKind.i64.wrap (tid * 4) = tid * 4 := by rw [IntKind.wrap_i64]; omega
  have u3 : IntKind.i64.wrap (2 + tid * 4) = 2 + tid * 4 := by rw [IntKind.wrap_i64]; omega
  have u4 : IntKind.i64.wrap (size * 64) = size * 64 := by rw [IntKind.wrap_i64]; omega
  have u5 : IntKind.i64.wrap (2 + tid * 4 + size * 64) = 2 + tid * 4 + size * 64 := by rw [IntKind.wrap_i64]; omega
  have u6 : IntKind.i64.wrap (seq * 16) = seq * 16 := by rw [IntKind.wrap_i64]; omega
  obtain ⟨t0, t1, t2, t3, t4, t5⟩ := to
  obtain ⟨f0, f1, f2, f3, f4, f5⟩ := fr
  obtain ⟨b0, b1, b2, b3, b4, b5⟩ := bs
  have HRES : Hid (addL ⟨t0, t1, t2, t3, t4, t5⟩ ⟨f0, f1, f2, f3, f4, f5⟩ ⟨b0, b1, b2, b3, b4, b5⟩ false tok tid size tmo seq 0 = (headL ⟨t0, t1, t2, t3, t4, t5⟩ ⟨f0, f1, f2, f3, f4, f5⟩ ⟨b0, b1, b2, b3, b4, b5⟩ ++ [0, 0, 3]) ++ [0, tok] ++ twoL (2 + tid * 4 + size * 64) ++ twoL tmo ++ twoL (seq * 16)) := by
    unfold Hid addL frontL headL
    simp
  have HHD := Lib.hid (fun (w0 w : World) (hw : Gro none w0 w) => rhead_any w0 ⟨t0, t1, t2, t3, t4, t5⟩ ⟨f0, f1, f2, f3, f4, f5⟩ ⟨b0, b1, b2, b3, b4, b5⟩ w hw)
  have hhl : (headL ⟨t0, t1, t2, t3, t4, t5⟩ ⟨f0, f1, f2, f3, f4, f5⟩ ⟨b0, b1, b2, b3, b4, b5⟩ ++ [0, 0, 3]).length = 25 := by rw [List.length_append, headL_len]; rfl
  obtain ⟨L0, hL0⟩ : ∃ L, L = (headL ⟨t0, t1, t2, t3, t4, t5⟩ ⟨f0, f1, f2, f3, f4, f5⟩ ⟨b0, b1, b2, b3, b4, b5⟩ ++ [0, 0, 3]) := ⟨_, rfl⟩
  rw [← hL0] at HHD HRES hhl
  obtain ⟨LA, hLA⟩ : ∃ L, L = L0 ++ [0, tok] := ⟨_, rfl⟩
  obtain ⟨LB, hLB⟩ : ∃ L, L = LA ++ twoL (2 + tid * 4 + size * 64) := ⟨_, rfl⟩
  obtain ⟨LC, hLC⟩ : ∃ L, L = LB ++ twoL (tmo) := ⟨_, rfl⟩
  obtain ⟨LD, hLD⟩ : ∃ L, L = LC ++ twoL (seq * 16) := ⟨_, rfl⟩
  have HLL : Hid (L0.length = 25 ∧ LA.length = 27 ∧ LB.length = 29 ∧ LC.length = 31) := by
    subst hLA
    subst hLB
    subst hLC
    exact ⟨hhl, by simp [hhl], by simp [hhl, twoL], by simp [hhl, twoL]⟩
  have HRES' : Hid (LD = addL ⟨t0, t1, t2, t3, t4, t5⟩ ⟨f0, f1, f2, f3, f4, f5⟩ ⟨b0, b1, b2, b3, b4, b5⟩ false tok tid size tmo seq 0) := by
    unfold Hid
    rw [HRES.out, hLD, hLC, hLB, hLA]
  have HLA := Lib.hid hLA
  have HLB := Lib.hid hLB
  have HLC := Lib.hid hLC
  have HLD := Lib.hid hLD
  have HB2 : Hid (0 ≤ 2 + tid * 4 + size * 64 ∧ 2 + tid * 4 + size * 64 < 65536) := by unfold Hid; omega
  have HB3 : Hid (0 ≤ tmo ∧ tmo < 65536) := by unfold Hid; omega
  have HB1 : Hid (0 ≤ seq * 16 ∧ seq * 16 < 65536) := by unfold Hid; omega
  clear hLA hLB hLC hLD hL0 hhl HRES
  unfold addV
  unfold adV at HHD
  simp only at HHD ⊢
  go_enter Tryd.func14, Tryd.ntmps14
  go_wp2_with fail
  have hgb : Gro none w (w.alloc (.cells #[.int .u8 t0, .int .u8 t1, .int .u8 t2, .int .u8 t3, .int .u8 t4, .int .u8 t5, .int .u8 f0, .int .u8 f1, .int .u8 f2, .int .u8 f3, .int .u8 f4, .int .u8 f5, .int .u8 b0, .int .u8 b1, .int .u8 b2, .int .u8 b3, .int .u8 b4, .int .u8 b5, .bool false, .int .i64 tok, .int .i64 tid, .int .i64 size, .int .i64 tmo, .int .i64 seq, .int .i64 0] 27)) := (Gro.refl _ _).alloc _
  have hbx := heap_alloc_new w (.cells #[.int .u8 t0, .int .u8 t1, .int .u8 t2, .int .u8 t3, .int .u8 t4, .int .u8 t5, .int .u8 f0, .int .u8 f1, .int .u8 f2, .int .u8 f3, .int .u8 f4, .int .u8 f5, .int .u8 b0, .int .u8 b1, .int .u8 b2, .int .u8 b3, .int .u8 b4, .int .u8 b5, .bool false, .int .i64 tok, .int .i64 tid, .int .i64 size, .int .i64 tmo, .int .i64 seq, .int .i64 0] 27)
  have hlw : w.heap.size < (w.alloc (.cells #[.int .u8 t0, .int .u8 t1, .int .u8 t2, .int .u8 t3, .int .u8 t4, .int .u8 t5, .int .u8 f0, .int .u8 f1, .int .u8 f2, .int .u8 f3, .int .u8 f4, .int .u8 f5, .int .u8 b0, .int .u8 b1, .int .u8 b2, .int .u8 b3, .int .u8 b4, .int .u8 b5, .bool false, .int .i64 tok, .int .i64 tid, .int .i64 size, .int .i64 tmo, .int .i64 seq, .int .i64 0] 27)).heap.size := by simp
  generalize w.alloc (.cells #[.int .u8 t0, .int .u8 t1, .int .u8 t2, .int .u8 t3, .int .u8 t4, .int .u8 t5, .int .u8 f0, .int .u8 f1, .int .u8 f2, .int .u8 f3, .int .u8 f4, .int .u8 f5, .int .u8 b0, .int .u8 b1, .int .u8 b2, .int .u8 b3, .int .u8 b4, .int .u8 b5, .bool false, .int .i64 tok, .int .i64 tid, .int .i64 size, .int .i64 tmo, .int .i64 seq, .int .i64 0] 27) = wb at *
  have HBX := Lib.hid (fun w' (k : Gro none wb w') => (k.block w.heap.size hlw (by simp)).trans hbx)
  have HG := Lib.hid hgb
  have HLW := Lib.hid hlw
  have c0 := cell_of_row wb w.heap.size 0 _ _ _ hbx
  have c1 := cell_of_row wb w.heap.size 1 _ _ _ hbx
  have c2 := cell_of_row wb w.heap.size 2 _ _ _ hbx
  have c3 := cell_of_row wb w.heap.size 3 _ _ _ hbx
  have c4 := cell_of_row wb w.heap.size 4 _ _ _ hbx
  have c5 := cell_of_row wb w.heap.size 5 _ _ _ hbx
  have c6 := cell_of_row wb w.heap.size 6 _ _ _ hbx
  have c7 := cell_of_row wb w.heap.size 7 _ _ _ hbx
  have c8 := cell_of_row wb w.heap.size 8 _ _ _ hbx
  have c9 := cell_of_row wb w.heap.size 9 _ _ _ hbx
  have c10 := cell_of_row wb w.heap.size 10 _ _ _ hbx
  have c11 := cell_of_row wb w.heap.size 11 _ _ _ hbx
  have c12 := cell_of_row wb w.heap.size 12 _ _ _ hbx
  have c13 := cell_of_row wb w.heap.size 13 _ _ _ hbx
  have c14 := cell_of_row wb w.heap.size 14 _ _ _ hbx
  have c15 := cell_of_row wb w.heap.size 15 _ _ _ hbx
  have c16 := cell_of_row wb w.heap.size 16 _ _ _ hbx
  have c17 := cell_of_row wb w.heap.size 17 _ _ _ hbx
  have c18 := cell_of_row wb w.heap.size 18 _ _ _ hbx
  have c19 := cell_of_row wb w.heap.size 19 _ _ _ hbx
  have c20 := cell_of_row wb w.heap.size 20 _ _ _ hbx
  have c21 := cell_of_row wb w.heap.size 21 _ _ _ hbx
  have c22 := cell_of_row wb w.heap.size 22 _ _ _ hbx
  have c23 := cell_of_row wb w.heap.size 23 _ _ _ hbx
  have c24 := cell_of_row wb w.heap.size 24 _ _ _ hbx
  simp only [List.getElem?_toArray, List.getElem?_cons_zero, List.getElem?_cons_succ] at c0 c1 c2 c3 c4 c5 c6 c7 c8 c9 c10 c11 c12 c13 c14 c15 c16 c17 c18 c19 c20 c21 c22 c23 c24
  clear hgb hbx hlw
  refine (HO1.out _).mono ?_
  rintro e w' ⟨rfl, rfl⟩
  go_wp2_with fail
  refine (HO2.out _).mono ?_
  rintro e w' ⟨rfl, rfl⟩
  go_wp2_with fail
  refine (HO3.out _).mono ?_
  rintro e w' ⟨rfl, rfl⟩
  go_wp2_with fail
  refine (HO4.out _).mono ?_
  rintro e w' ⟨rfl, rfl⟩
  go_wp2_with fail
  refine (HO5.out _).mono ?_
  rintro e w' ⟨rfl, rfl⟩
  go_wp2_with fail
  refine (HO6.out _).mono ?_
  rintro e w' ⟨rfl, rfl⟩
  go_wp2_with fail
  clear HO1 HO2 HO3 HO4 HO5 HO6
  refine (HHD.out wb wb (Gro.refl _ _)).mono ?_
  rintro e w2 ⟨v0, rfl, ho0, hg0⟩
  have HO0 := Lib.hid ho0
  have HG0 := Lib.hid hg0
  clear ho0 hg0 HHD c0 c1 c2 c3 c4 c5 c6 c7 c8 c9 c10 c11 c12 c13 c14 c15 c16 c17 c18 c19 c20 c21 c22 c23 c24
  have c18 := cell_of_row w2 w.heap.size 18 _ _ _ (HBX.out w2 HG0.out)
  simp only [List.getElem?_toArray, List.getElem?_cons_zero, List.getElem?_cons_succ] at c18
  go_wp2_with fail
  clear c18
  refine wp_region_K wb HG0.out v0 L0 [(21, 103, LD), (17, 99, LC), (14, 96, LB), (5, 87, LA)] 4 86 5 2 #[.int .u8 0, .int .u8 tok] (by kernel_rfl) (by kernel_rfl) (rc_skip (by kernel_rfl) (rc_skip (by kernel_rfl) (rc_skip (by kernel_rfl) (rc_skip (by kernel_rfl) (HO0.out.gro ((Gro.refl none w2).drew) (by simp)))))) ?_
  refine kY (i := 0) (x := 82) (v := v0) rfl (by rfl) (by decide) (by decide) (by decide) (by kernel_rfl) (by kernel_rfl) (by kernel_rfl) (fun _ _ _ h => h) (by intro w' k; go_simp) ?_
  simp only [Act.put, List.setIfInBounds_toArray, List.set_cons_zero, List.set_cons_succ]
  refine kY (i := 1) (x := 83) (v := .pointer (some ⟨w.heap.size, 19, none⟩)) rfl (by rfl) (by decide) (by decide) (by decide) (by kernel_rfl) (by kernel_rfl) (by kernel_rfl) (fun _ _ _ h => h) (by intro w' k; go_simp) ?_
  simp only [Act.put, List.setIfInBounds_toArray, List.set_cons_zero, List.set_cons_succ]
  refine kY (i := 2) (x := 84) (v := .int .i64 tok) rfl (by rfl) (by decide) (by decide) (by decide) (by kernel_rfl) (by kernel_rfl) (by kernel_rfl) (fun _ _ _ h => h) (by intro w' k; have hq := cell_of_row w' w.heap.size 19 _ _ _ (HBX.out w' k); simp only [List.getElem?_toArray, List.getElem?_cons_zero, List.getElem?_cons_succ] at hq; clear k; go_simp) ?_
  simp only [Act.put, List.setIfInBounds_toArray, List.set_cons_zero, List.set_cons_succ]
  refine kY (i := 3) (x := 85) (v := .int .u8 tok) rfl (by rfl) (by decide) (by decide) (by decide) (by kernel_rfl) (by kernel_rfl) (by kernel_rfl) (fun _ _ _ h => h) (by intro w' k; go_simp) ?_
  simp only [Act.put, List.setIfInBounds_toArray, List.set_cons_zero, List.set_cons_succ]
  refine kY (i := 6) (x := 88) (v := .pointer (some ⟨w.heap.size, 20, none⟩)) rfl (by rfl) (by decide) (by decide) (by decide) (by kernel_rfl) (by kernel_rfl) (by kernel_rfl) (fun _ _ _ h => h) (by intro w' k; go_simp) ?_
  simp only [Act.put, List.setIfInBounds_toArray, List.set_cons_zero, List.set_cons_succ]
  refine kY (i := 7) (x := 89) (v := .int .i64 tid) rfl (by rfl) (by decide) (by decide) (by decide) (by kernel_rfl) (by kernel_rfl) (by kernel_rfl) (fun _ _ _ h => h) (by intro w' k; have hq := cell_of_row w' w.heap.size 20 _ _ _ (HBX.out w' k); simp only [List.getElem?_toArray, List.getElem?_cons_zero, List.getElem?_cons_succ] at hq; clear k; go_simp) ?_
  simp only [Act.put, List.setIfInBounds_toArray, List.set_cons_zero, List.set_cons_succ]
  refine kY (i := 8) (x := 90) (v := .int .i64 (tid * 4)) rfl (by rfl) (by decide) (by decide) (by decide) (by kernel_rfl) (by kernel_rfl) (by kernel_rfl) (fun _ _ _ h => h) (by intro w' k; go_simp) ?_
  simp only [Act.put, List.setIfInBounds_toArray, List.set_cons_zero, List.set_cons_succ]
  refine kY (i := 9) (x := 91) (v := .int .i64 (2 + tid * 4)) rfl (by rfl) (by decide) (by decide) (by decide) (by kernel_rfl) (by kernel_rfl) (by kernel_rfl) (fun _ _ _ h => h) (by intro w' k; go_simp) ?_
  simp only [Act.put, List.setIfInBounds_toArray, List.set_cons_zero, List.set_cons_succ]
  refine kY (i := 10) (x := 92) (v := .pointer (some ⟨w.heap.size, 21, none⟩)) rfl (by rfl) (by decide) (by decide) (by decide) (by kernel_rfl) (by kernel_rfl) (by kernel_rfl) (fun _ _ _ h => h) (by intro w' k; go_simp) ?_
  simp only [Act.put, List.setIfInBounds_toArray, List.set_cons_zero, List.set_cons_succ]
  refine kY (i := 11) (x := 93) (v := .int .i64 size) rfl (by rfl) (by decide) (by decide) (by decide) (by kernel_rfl) (by kernel_rfl) (by kernel_rfl) (fun _ _ _ h => h) (by intro w' k; have hq := cell_of_row w' w.heap.size 21 _ _ _ (HBX.out w' k); simp only [List.getElem?_toArray, List.getElem?_cons_zero, List.getElem?_cons_succ] at hq; clear k; go_simp) ?_
  simp only [Act.put, List.setIfInBounds_toArray, List.set_cons_zero, List.set_cons_succ]
  refine kY (i := 12) (x := 94) (v := .int .i64 (size * 64)) rfl (by rfl) (by decide) (by decide) (by decide) (by kernel_rfl) (by kernel_rfl) (by kernel_rfl) (fun _ _ _ h => h) (by intro w' k; go_simp) ?_
  simp only [Act.put, List.setIfInBounds_toArray, List.set_cons_zero, List.set_cons_succ]
  refine kY (i := 13) (x := 95) (v := .int .i64 (2 + tid * 4 + size * 64)) rfl (by rfl) (by decide) (by decide) (by decide) (by kernel_rfl) (by kernel_rfl) (by kernel_rfl) (fun _ _ _ h => h) (by intro w' k; go_simp) ?_
  simp only [Act.put, List.setIfInBounds_toArray, List.set_cons_zero, List.set_cons_succ]
  refine kY (i := 15) (x := 97) (v := .pointer (some ⟨w.heap.size, 22, none⟩)) rfl (by rfl) (by decide) (by decide) (by decide) (by kernel_rfl) (by kernel_rfl) (by kernel_rfl) (fun _ _ _ h => h) (by intro w' k; go_simp) ?_
  simp only [Act.put, List.setIfInBounds_toArray, List.set_cons_zero, List.set_cons_succ]
  refine kY (i := 16) (x := 98) (v := .int .i64 tmo) rfl (by rfl) (by decide) (by decide) (by decide) (by kernel_rfl) (by kernel_rfl) (by kernel_rfl) (fun _ _ _ h => h) (by intro w' k; have hq := cell_of_row w' w.heap.size 22 _ _ _ (HBX.out w' k); simp only [List.getElem?_toArray, List.getElem?_cons_zero, List.getElem?_cons_succ] at hq; clear k; go_simp) ?_
  simp only [Act.put, List.setIfInBounds_toArray, List.set_cons_zero, List.set_cons_succ]
  refine kY (i := 18) (x := 100) (v := .pointer (some ⟨w.heap.size, 23, none⟩)) rfl (by rfl) (by decide) (by decide) (by decide) (by kernel_rfl) (by kernel_rfl) (by kernel_rfl) (fun _ _ _ h => h) (by intro w' k; go_simp) ?_
  simp only [Act.put, List.setIfInBounds_toArray, List.set_cons_zero, List.set_cons_succ]
  refine kY (i := 19) (x := 101) (v := .int .i64 seq) rfl (by rfl) (by decide) (by decide) (by decide) (by kernel_rfl) (by kernel_rfl) (by kernel_rfl) (fun _ _ _ h => h) (by intro w' k; have hq := cell_of_row w' w.heap.size 23 _ _ _ (HBX.out w' k); simp only [List.getElem?_toArray, List.getElem?_cons_zero, List.getElem?_cons_succ] at hq; clear k; go_simp) ?_
  simp only [Act.put, List.setIfInBounds_toArray, List.set_cons_zero, List.set_cons_succ]
  refine kY (i := 20) (x := 102) (v := .int .i64 (seq * 16)) rfl (by rfl) (by decide) (by decide) (by decide) (by kernel_rfl) (by kernel_rfl) (by kernel_rfl) (fun _ _ _ h => h) (by intro w' k; go_simp) ?_
  simp only [Act.put, List.setIfInBounds_toArray, List.set_cons_zero, List.set_cons_succ]
  refine kS rfl (by kernel_rfl) (by simp) (by rfl) (by intro w'; go_simp) ?_
  intro g5
  simp only [Act.put, List.setIfInBounds_toArray, List.set_cons_zero, List.set_cons_succ]
  refine kA _ _ L0 [0, tok] v0 g5 rfl (by kernel_rfl) (by simp) (by kernel_rfl) (by kernel_rfl) rfl rfl rfl rfl rfl (by have := HLL.out; omega) (fun w' hk => (rc_next (rc_next (rc_next (rc_next hk (by kernel_rfl)) (by kernel_rfl)) (by kernel_rfl)) (by kernel_rfl))) (fun w' v' ho => (rc_skip (by kernel_rfl) (rc_skip (by kernel_rfl) (rc_skip (by kernel_rfl) (rc_mk (by kernel_rfl) rfl (HLA.out.symm ▸ ho)))))) ?_
  intro v1
  simp only [Act.put, List.setIfInBounds_toArray, List.set_cons_zero, List.set_cons_succ]
  refine kL (i := 14) (x := 96) 33 #[v1, .int .i64 (2 + tid * 4 + size * 64)] (LB) rfl (by kernel_rfl) (.inr (by kernel_rfl)) (by decide) (by decide) (by intro w'; go_simp) (fun w' hg hk => HLB.out ▸ rtwo_any wb LA v1 (2 + tid * 4 + size * 64) w' (rc_use (rc_next (rc_next (rc_next hk (by kernel_rfl)) (by kernel_rfl)) (by kernel_rfl)) (by kernel_rfl) rfl) hg (by have := HLL.out; omega) HB2.out.1 HB2.out.2) (fun w' v' ho => (rc_skip (by kernel_rfl) (rc_skip (by kernel_rfl) (rc_mk (by kernel_rfl) rfl ho)))) ?_
  intro v2
  simp only [Act.put, List.setIfInBounds_toArray, List.set_cons_zero, List.set_cons_succ]
  refine kL (i := 17) (x := 99) 33 #[v2, .int .i64 (tmo)] (LC) rfl (by kernel_rfl) (.inr (by kernel_rfl)) (by decide) (by decide) (by intro w'; go_simp) (fun w' hg hk => HLC.out ▸ rtwo_any wb LB v2 (tmo) w' (rc_use (rc_next (rc_next hk (by kernel_rfl)) (by kernel_rfl)) (by kernel_rfl) rfl) hg (by have := HLL.out; omega) HB3.out.1 HB3.out.2) (fun w' v' ho => (rc_skip (by kernel_rfl) (rc_mk (by kernel_rfl) rfl ho))) ?_
  intro v3
  simp only [Act.put, List.setIfInBounds_toArray, List.set_cons_zero, List.set_cons_succ]
  refine kL (i := 21) (x := 103) 33 #[v3, .int .i64 (seq * 16)] (LD) rfl (by kernel_rfl) (.inr (by kernel_rfl)) (by decide) (by decide) (by intro w'; go_simp) (fun w' hg hk => HLD.out ▸ rtwo_any wb LC v3 (seq * 16) w' (rc_use (rc_next hk (by kernel_rfl)) (by kernel_rfl) rfl) hg (by have := HLL.out; omega) HB1.out.1 HB1.out.2) (fun w' v' ho => (rc_mk (by kernel_rfl) rfl ho)) ?_
  intro v4
  simp only [Act.put, List.setIfInBounds_toArray, List.set_cons_zero, List.set_cons_succ]
  refine kY (i := 22) (x := 2) (v := v4) rfl (by rfl) (by decide) (by decide) (by decide) (by kernel_rfl) (by kernel_rfl) (by kernel_rfl) (fun _ _ _ h => h) (by intro w' k; go_simp) ?_
  simp only [Act.put, List.setIfInBounds_toArray, List.set_cons_zero, List.set_cons_succ]
  refine kY (i := 23) (x := 3) (v := .int .i64 0) rfl (by rfl) (by decide) (by decide) (by decide) (by kernel_rfl) (by kernel_rfl) (by kernel_rfl) (fun _ _ _ h => h) (by intro w' k; go_simp) ?_
  simp only [Act.put, List.setIfInBounds_toArray, List.set_cons_zero, List.set_cons_succ]
  refine wpAnyS_done (by kernel_rfl) fun w6 hw6 => ?_
  have HO := Lib.hid (rc_use hw6.2.1 (by kernel_rfl) rfl)
  have HG6 := Lib.hid hw6.1
  clear hw6
  go_wp2_with fail
  go_ret2
  exact ⟨_, rfl, HG.out.trans HG6.out, HRES'.out ▸ HO.out.weak (Nat.le_of_lt HLW.out)⟩

set_option maxHeartbeats 4000000 in
set_option maxRecDepth 100000 in
theorem rdel_any (to fr bs : Ad) (mine : Bool) (tid reason : Int) (w : World) (h : okD tid reason) :
    Calls Tryd.prog 15 #[delV to fr bs mine tid reason] w fun e w' => ∃ v, e = .returned (.tuple #[v, .int .i64 0]) ∧ Gro none w w' ∧ Own w.heap.size w' v (delL to fr bs mine tid reason) := by
  obtain ⟨⟨h1, h1'⟩, ⟨h2, h2'⟩⟩ := h
  have HO1 := Lib.hid (fun w => out_any tid 7 w)
  have HO2 := Lib.hid (fun w => out_any reason 65535 w)
  rw [decide_eq_true ⟨h1, h1'⟩] at HO1
  rw [decide_eq_true ⟨h2, h2'⟩] at HO2
  have HFL := Lib.hid (fun w => flag_any mine w)
  have hfl : (0 : Int) ≤ (if mine then 2048 else 0) ∧ (if mine then (2048 : Int) else 0) ≤ 2048 := by cases mine <;> decide
  obtain ⟨t0, t1, t2, t3, t4, t5⟩ := to
  obtain ⟨f0, f1, f2, f3, f4, f5⟩ := fr
  obtain ⟨b0, b1, b2, b3, b4, b5⟩ := bs
  have HRES : Hid (delL ⟨t0, t1, t2, t3, t4, t5⟩ ⟨f0, f1, f2, f3, f4, f5⟩ ⟨b0, b1, b2, b3, b4, b5⟩ mine tid reason = (headL ⟨t0, t1, t2, t3, t4, t5⟩ ⟨f0, f1, f2, f3, f4, f5⟩ ⟨b0, b1, b2, b3, b4, b5⟩ ++ [0, 0, 3]) ++ [2] ++ twoL ((if mine then 2048 else 0) + tid * 4096) ++ twoL reason) := by
    unfold Hid delL frontL headL
    rw [Int.add_comm (tid * 4096)]
    simp
  generalize (if mine then (2048 : Int) else 0) = fl at *
  obtain ⟨fl0, fl1⟩ := hfl
  have u2 : IntKind.i64.wrap (tid * 4096) = tid * 4096 := by rw [IntKind.wrap_i64]; omega
  have u3 : IntKind.i64.wrap (fl + tid * 4096) = fl + tid * 4096 := by rw [IntKind.wrap_i64]; omega
  have HHD := Lib.hid (fun (w0 w : World) (hw : Gro none w0 w) => rhead_any w0 ⟨t0, t1, t2, t3, t4, t5⟩ ⟨f0, f1, f2, f3, f4, f5⟩ ⟨b0, b1, b2, b3, b4, b5⟩ w hw)
  have hhl : (headL ⟨t0, t1, t2, t3, t4, t5⟩ ⟨f0, f1, f2, f3, f4, f5⟩ ⟨b0, b1, b2, b3, b4, b5⟩ ++ [0, 0, 3]).length = 25 := by rw [List.length_append, headL_len]; rfl
  obtain ⟨L0, hL0⟩ : ∃ L, L = (headL ⟨t0, t1, t2, t3, t4, t5⟩ ⟨f0, f1, f2, f3, f4, f5⟩ ⟨b0, b1, b2, b3, b4, b5⟩ ++ [0, 0, 3]) := ⟨_, rfl⟩
  rw [← hL0] at HHD HRES hhl
  obtain ⟨LA, hLA⟩ : ∃ L, L = L0 ++ [2] := ⟨_, rfl⟩
  obtain ⟨LB, hLB⟩ : ∃ L, L = LA ++ twoL (fl + tid * 4096) := ⟨_, rfl⟩
  obtain ⟨LC, hLC⟩ : ∃ L, L = LB ++ twoL reason := ⟨_, rfl⟩
  have HLL : Hid (L0.length = 25 ∧ LA.length = 26 ∧ LB.length = 28) := by
    subst hLA
    subst hLB
    exact ⟨hhl, by simp [hhl], by simp [hhl, twoL]⟩
  have HRES' : Hid (LC = delL ⟨t0, t1, t2, t3, t4, t5⟩ ⟨f0, f1, f2, f3, f4, f5⟩ ⟨b0, b1, b2, b3, b4, b5⟩ mine tid reason) := by
    unfold Hid
    rw [HRES.out, hLC, hLB, hLA]
  have HLA := Lib.hid hLA
  have HLB := Lib.hid hLB
  have HLC := Lib.hid hLC
  have HB1 : Hid (0 ≤ fl + tid * 4096 ∧ fl + tid * 4096 < 65536) := by unfold Hid; omega
  have HB2 : Hid (0 ≤ reason ∧ reason < 65536) := by unfold Hid; omega
  clear hLA hLB hLC hL0 hhl HRES
  unfold delV
  unfold adV at HHD
  simp only at HHD ⊢
  go_enter Tryd.func15, Tryd.ntmps15
  go_wp2_with fail
  have hgb : Gro none w (w.alloc (.cells #[.int .u8 t0, .int .u8 t1, .int .u8 t2, .int .u8 t3, .int .u8 t4, .int .u8 t5, .int .u8 f0, .int .u8 f1, .int .u8 f2, .int .u8 f3, .int .u8 f4, .int .u8 f5, .int .u8 b0, .int .u8 b1, .int .u8 b2, .int .u8 b3, .int .u8 b4, .int .u8 b5, .bool mine, .int .i64 tid, .int .i64 reason] 36)) := (Gro.refl _ _).alloc _
  have hbx := heap_alloc_new w (.cells #[.int .u8 t0, .int .u8 t1, .int .u8 t2, .int .u8 t3, .int .u8 t4, .int .u8 t5, .int .u8 f0, .int .u8 f1, .int .u8 f2, .int .u8 f3, .int .u8 f4, .int .u8 f5, .int .u8 b0, .int .u8 b1, .int .u8 b2, .int .u8 b3, .int .u8 b4, .int .u8 b5, .bool mine, .int .i64 tid, .int .i64 reason] 36)
  have hlw : w.heap.size < (w.alloc (.cells #[.int .u8 t0, .int .u8 t1, .int .u8 t2, .int .u8 t3, .int .u8 t4, .int .u8 t5, .int .u8 f0, .int .u8 f1, .int .u8 f2, .int .u8 f3, .int .u8 f4, .int .u8 f5, .int .u8 b0, .int .u8 b1, .int .u8 b2, .int .u8 b3, .int .u8 b4, .int .u8 b5, .bool mine, .int .i64 tid, .int .i64 reason] 36)).heap.size := by simp
  generalize w.alloc (.cells #[.int .u8 t0, .int .u8 t1, .int .u8 t2, .int .u8 t3, .int .u8 t4, .int .u8 t5, .int .u8 f0, .int .u8 f1, .int .u8 f2, .int .u8 f3, .int .u8 f4, .int .u8 f5, .int .u8 b0, .int .u8 b1, .int .u8 b2, .int .u8 b3, .int .u8 b4, .int .u8 b5, .bool mine, .int .i64 tid, .int .i64 reason] 36) = wb at *
  have HBX := Lib.hid (fun w' (k : Gro none wb w') => (k.block w.heap.size hlw (by simp)).trans hbx)
  have HG := Lib.hid hgb
  have HLW := Lib.hid hlw
  have c19 := cell_of_row wb w.heap.size 19 _ _ _ hbx
  have c20 := cell_of_row wb w.heap.size 20 _ _ _ hbx
  simp only [List.getElem?_toArray, List.getElem?_cons_zero, List.getElem?_cons_succ] at c19 c20
  clear hgb hbx hlw
  refine (HO1.out _).mono ?_
  rintro e w' ⟨rfl, rfl⟩
  go_wp2_with fail
  refine (HO2.out _).mono ?_
  rintro e w' ⟨rfl, rfl⟩
  go_wp2_with fail
  clear HO1 HO2 c19 c20
  refine wp_region_K wb (Gro.refl _ _) (.slice none 0 0) [] [(19, 31, LC), (16, 28, LB), (8, 20, LA), (6, 18, L0)] 7 19 8 1 #[.int .u8 2] (by kernel_rfl) (by kernel_rfl) (rc_skip (by kernel_rfl) (rc_skip (by kernel_rfl) (rc_skip (by kernel_rfl) (rc_skip (by kernel_rfl) (Own.none_ _ _))))) ?_
  refine kY (i := 0) (x := 12) (v := .pointer (some ⟨w.heap.size, 0, none⟩)) rfl (by rfl) (by decide) (by decide) (by decide) (by kernel_rfl) (by kernel_rfl) (by kernel_rfl) (fun _ _ _ h => h) (by intro w' k; go_simp) ?_
  simp only [Act.put, List.setIfInBounds_toArray, List.set_cons_zero, List.set_cons_succ]
  refine kY (i := 1) (x := 13) (v := .agg #[.int .u8 t0, .int .u8 t1, .int .u8 t2, .int .u8 t3, .int .u8 t4, .int .u8 t5]) rfl (by rfl) (by decide) (by decide) (by decide) (by kernel_rfl) (by kernel_rfl) (by kernel_rfl) (fun _ _ _ h => h) (fun w' k => run_part 25 _ rfl w.heap.size 0 rfl [.int .u8 t0, .int .u8 t1, .int .u8 t2, .int .u8 t3, .int .u8 t4, .int .u8 t5] _ _ (HBX.out w' k) (sub_six rfl rfl rfl rfl rfl rfl) _ Tryd.underlying25 rfl (by kernel_rfl)) ?_
  simp only [Act.put, List.setIfInBounds_toArray, List.set_cons_zero, List.set_cons_succ]
  refine kY (i := 2) (x := 14) (v := .pointer (some ⟨w.heap.size, 6, none⟩)) rfl (by rfl) (by decide) (by decide) (by decide) (by kernel_rfl) (by kernel_rfl) (by kernel_rfl) (fun _ _ _ h => h) (by intro w' k; go_simp) ?_
  simp only [Act.put, List.setIfInBounds_toArray, List.set_cons_zero, List.set_cons_succ]
  refine kY (i := 3) (x := 15) (v := .agg #[.int .u8 f0, .int .u8 f1, .int .u8 f2, .int .u8 f3, .int .u8 f4, .int .u8 f5]) rfl (by rfl) (by decide) (by decide) (by decide) (by kernel_rfl) (by kernel_rfl) (by kernel_rfl) (fun _ _ _ h => h) (fun w' k => run_part 25 _ rfl w.heap.size 6 rfl [.int .u8 f0, .int .u8 f1, .int .u8 f2, .int .u8 f3, .int .u8 f4, .int .u8 f5] _ _ (HBX.out w' k) (sub_six rfl rfl rfl rfl rfl rfl) _ Tryd.underlying25 rfl (by kernel_rfl)) ?_
  simp only [Act.put, List.setIfInBounds_toArray, List.set_cons_zero, List.set_cons_succ]
  refine kY (i := 4) (x := 16) (v := .pointer (some ⟨w.heap.size, 12, none⟩)) rfl (by rfl) (by decide) (by decide) (by decide) (by kernel_rfl) (by kernel_rfl) (by kernel_rfl) (fun _ _ _ h => h) (by intro w' k; go_simp) ?_
  simp only [Act.put, List.setIfInBounds_toArray, List.set_cons_zero, List.set_cons_succ]
  refine kY (i := 5) (x := 17) (v := .agg #[.int .u8 b0, .int .u8 b1, .int .u8 b2, .int .u8 b3, .int .u8 b4, .int .u8 b5]) rfl (by rfl) (by decide) (by decide) (by decide) (by kernel_rfl) (by kernel_rfl) (by kernel_rfl) (fun _ _ _ h => h) (fun w' k => run_part 25 _ rfl w.heap.size 12 rfl [.int .u8 b0, .int .u8 b1, .int .u8 b2, .int .u8 b3, .int .u8 b4, .int .u8 b5] _ _ (HBX.out w' k) (sub_six rfl rfl rfl rfl rfl rfl) _ Tryd.underlying25 rfl (by kernel_rfl)) ?_
  simp only [Act.put, List.setIfInBounds_toArray, List.set_cons_zero, List.set_cons_succ]
  refine kY (i := 9) (x := 21) (v := .pointer (some ⟨w.heap.size, 18, none⟩)) rfl (by rfl) (by decide) (by decide) (by decide) (by kernel_rfl) (by kernel_rfl) (by kernel_rfl) (fun _ _ _ h => h) (by intro w' k; go_simp) ?_
  simp only [Act.put, List.setIfInBounds_toArray, List.set_cons_zero, List.set_cons_succ]
  refine kY (i := 10) (x := 22) (v := .bool mine) rfl (by rfl) (by decide) (by decide) (by decide) (by kernel_rfl) (by kernel_rfl) (by kernel_rfl) (fun _ _ _ h => h) (by intro w' k; have hq := cell_of_row w' w.heap.size 18 _ _ _ (HBX.out w' k); simp only [List.getElem?_toArray, List.getElem?_cons_zero, List.getElem?_cons_succ] at hq; clear k; go_simp) ?_
  simp only [Act.put, List.setIfInBounds_toArray, List.set_cons_zero, List.set_cons_succ]
  refine kY (i := 12) (x := 24) (v := .pointer (some ⟨w.heap.size, 19, none⟩)) rfl (by rfl) (by decide) (by decide) (by decide) (by kernel_rfl) (by kernel_rfl) (by kernel_rfl) (fun _ _ _ h => h) (by intro w' k; go_simp) ?_
  simp only [Act.put, List.setIfInBounds_toArray, List.set_cons_zero, List.set_cons_succ]
  refine kY (i := 13) (x := 25) (v := .int .i64 tid) rfl (by rfl) (by decide) (by decide) (by decide) (by kernel_rfl) (by kernel_rfl) (by kernel_rfl) (fun _ _ _ h => h) (by intro w' k; have hq := cell_of_row w' w.heap.size 19 _ _ _ (HBX.out w' k); simp only [List.getElem?_toArray, List.getElem?_cons_zero, List.getElem?_cons_succ] at hq; clear k; go_simp) ?_
  simp only [Act.put, List.setIfInBounds_toArray, List.set_cons_zero, List.set_cons_succ]
  refine kY (i := 14) (x := 26) (v := .int .i64 (tid * 4096)) rfl (by rfl) (by decide) (by decide) (by decide) (by kernel_rfl) (by kernel_rfl) (by kernel_rfl) (fun _ _ _ h => h) (by intro w' k; go_simp) ?_
  simp only [Act.put, List.setIfInBounds_toArray, List.set_cons_zero, List.set_cons_succ]
  refine kY (i := 17) (x := 29) (v := .pointer (some ⟨w.heap.size, 20, none⟩)) rfl (by rfl) (by decide) (by decide) (by decide) (by kernel_rfl) (by kernel_rfl) (by kernel_rfl) (fun _ _ _ h => h) (by intro w' k; go_simp) ?_
  simp only [Act.put, List.setIfInBounds_toArray, List.set_cons_zero, List.set_cons_succ]
  refine kY (i := 18) (x := 30) (v := .int .i64 reason) rfl (by rfl) (by decide) (by decide) (by decide) (by kernel_rfl) (by kernel_rfl) (by kernel_rfl) (fun _ _ _ h => h) (by intro w' k; have hq := cell_of_row w' w.heap.size 20 _ _ _ (HBX.out w' k); simp only [List.getElem?_toArray, List.getElem?_cons_zero, List.getElem?_cons_succ] at hq; clear k; go_simp) ?_
  simp only [Act.put, List.setIfInBounds_toArray, List.set_cons_zero, List.set_cons_succ]
  refine kLS (i := 6) (x := 18) 32 #[.agg #[.int .u8 t0, .int .u8 t1, .int .u8 t2, .int .u8 t3, .int .u8 t4, .int .u8 t5], .agg #[.int .u8 f0, .int .u8 f1, .int .u8 f2, .int .u8 f3, .int .u8 f4, .int .u8 f5], .agg #[.int .u8 b0, .int .u8 b1, .int .u8 b2, .int .u8 b3, .int .u8 b4, .int .u8 b5]] L0 rfl rfl (by kernel_rfl) (by kernel_rfl) (by kernel_rfl) (by decide) (by decide) (by decide) (by kernel_rfl) (by kernel_rfl) (by simp) (by rfl) (by intro w'; go_simp) (by intro w' g; simp only [Act.put, List.setIfInBounds_toArray, List.set_cons_zero, List.set_cons_succ]; go_simp) (by intro w'; go_simp) (by intro w' v; simp only [Act.put, List.setIfInBounds_toArray, List.set_cons_zero, List.set_cons_succ]; go_simp) (fun w' => HHD.out w' w' (Gro.refl _ _)) (fun w' v' ho => (rc_skip (by kernel_rfl) (rc_skip (by kernel_rfl) (rc_skip (by kernel_rfl) (rc_mk (by kernel_rfl) rfl ho))))) ?_
  intro v0 g5
  simp only [Act.put, List.setIfInBounds_toArray, List.set_cons_zero, List.set_cons_succ]
  refine kA _ _ L0 [2] v0 g5 rfl (by kernel_rfl) (by simp) (by kernel_rfl) (by kernel_rfl) rfl rfl rfl rfl rfl (by have := HLL.out; omega) (fun w' hk => (rc_use (rc_next (rc_next (rc_next hk (by kernel_rfl)) (by kernel_rfl)) (by kernel_rfl)) (by kernel_rfl) rfl)) (fun w' v' ho => (rc_skip (by kernel_rfl) (rc_skip (by kernel_rfl) (rc_mk (by kernel_rfl) rfl (HLA.out.symm ▸ ho))))) ?_
  intro v1
  simp only [Act.put, List.setIfInBounds_toArray, List.set_cons_zero, List.set_cons_succ]
  refine kC (i := 11) (x := 23) (v := .int .i64 fl) 34 #[.bool mine, .int .i64 2048] rfl (by rfl) (by decide) (by decide) (by decide) (by kernel_rfl) (by kernel_rfl) (by kernel_rfl) (fun _ _ _ h => h) (by intro w'; go_simp) (fun w' k => HFL.out w') ?_
  simp only [Act.put, List.setIfInBounds_toArray, List.set_cons_zero, List.set_cons_succ]
  refine kY (i := 15) (x := 27) (v := .int .i64 (fl + tid * 4096)) rfl (by rfl) (by decide) (by decide) (by decide) (by kernel_rfl) (by kernel_rfl) (by kernel_rfl) (fun _ _ _ h => h) (by intro w' k; go_simp) ?_
  simp only [Act.put, List.setIfInBounds_toArray, List.set_cons_zero, List.set_cons_succ]
  refine kL (i := 16) (x := 28) 33 #[v1, .int .i64 (fl + tid * 4096)] (LB) rfl (by kernel_rfl) (.inr (by kernel_rfl)) (by decide) (by decide) (by intro w'; go_simp) (fun w' hg hk => HLB.out ▸ rtwo_any wb LA v1 (fl + tid * 4096) w' (rc_use (rc_next (rc_next hk (by kernel_rfl)) (by kernel_rfl)) (by kernel_rfl) rfl) hg (by have := HLL.out; omega) HB1.out.1 HB1.out.2) (fun w' v' ho => (rc_skip (by kernel_rfl) (rc_mk (by kernel_rfl) rfl ho))) ?_
  intro v2
  simp only [Act.put, List.setIfInBounds_toArray, List.set_cons_zero, List.set_cons_succ]
  refine kL (i := 19) (x := 31) 33 #[v2, .int .i64 (reason)] (LC) rfl (by kernel_rfl) (.inr (by kernel_rfl)) (by decide) (by decide) (by intro w'; go_simp) (fun w' hg hk => HLC.out ▸ rtwo_any wb LB v2 (reason) w' (rc_use (rc_next hk (by kernel_rfl)) (by kernel_rfl) rfl) hg (by have := HLL.out; omega) HB2.out.1 HB2.out.2) (fun w' v' ho => (rc_mk (by kernel_rfl) rfl ho)) ?_
  intro v3
  simp only [Act.put, List.setIfInBounds_toArray, List.set_cons_zero, List.set_cons_succ]
  refine kY (i := 20) (x := 2) (v := v3) rfl (by rfl) (by decide) (by decide) (by decide) (by kernel_rfl) (by kernel_rfl) (by kernel_rfl) (fun _ _ _ h => h) (by intro w' k; go_simp) ?_
  simp only [Act.put, List.setIfInBounds_toArray, List.set_cons_zero, List.set_cons_succ]
  refine kY (i := 21) (x := 3) (v := .int .i64 0) rfl (by rfl) (by decide) (by decide) (by decide) (by kernel_rfl) (by kernel_rfl) (by kernel_rfl) (fun _ _ _ h => h) (by intro w' k; go_simp) ?_
  simp only [Act.put, List.setIfInBounds_toArray, List.set_cons_zero, List.set_cons_succ]
  refine wpAnyS_done (by kernel_rfl) fun w6 hw6 => ?_
  have HO := Lib.hid (rc_use hw6.2.1 (by kernel_rfl) rfl)
  have HG6 := Lib.hid hw6.1
  clear hw6
  go_wp2_with fail
  go_ret2
  exact ⟨_, rfl, HG.out.trans HG6.out, HRES'.out ▸ HO.out.weak (Nat.le_of_lt HLW.out)⟩
theorem radd_any (to fr bs : Ad) (ans : Bool) (tok tid size tmo seq st : Int) (w : World) (h : okA ans tok tid size tmo seq st) :
    Calls Tryd.prog 14 #[addV to fr bs ans tok tid size tmo seq st] w fun e w' => ∃ v, e = .returned (.tuple #[v, .int .i64 0]) ∧ Gro none w w' ∧ Own w.heap.size w' v (addL to fr bs ans tok tid size tmo seq st) := by
  have h7 := h.2.2.2.2.2.2
  cases ans
  · obtain rfl := h7.1 rfl
    exact radd_asks to fr bs tok tid size tmo seq w h
  · obtain rfl := h7.2 rfl
    exact radd_ans to fr bs tok tid size tmo st w h
end Go.Proofs.YtflckkeaakmojaaDoor
