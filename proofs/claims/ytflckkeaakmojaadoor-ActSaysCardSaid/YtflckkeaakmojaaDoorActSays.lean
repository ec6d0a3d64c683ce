/-
  THE WALK OF ActSays: the bytes of any session's frame, any bytes as each, are what the chapter says; it answers true. Conditions: the fourteen sentinels' own ('Sent'), and that the bytes lie where the slice says.
-/
import Derived.Test.YtflckkeaakmojaaDoorActRefR
import Derived.Test.YtflckkeaakmojaaDoorActSame
import Derived.Test.YtflckkeaakmojaaDoorSent
import Derived.Test.YtflckkeaakmojaaDoorFrame
namespace Go.Proofs.YtflckkeaakmojaaDoor
open Go.RowKit

/-- The load of a whole row, in an operation that hangs on a test that came out so. -/
theorem load_row_g {P : Program} {ops : Array Oper} {rest : List Oper} {op : Oper} {a : Act} {w : World} {Q : Exit → Act → World → Prop} (hw : Region.wanted op (yielded ops a.tmps) = true) (ty : TypeId) (x : Operand) (ho : op.op = .load ty x)
    (b : Nat) (hx : a.eval x = .pointer (some ⟨b, 0, none⟩)) (F : Array Value) (t : TypeId) (hb : w.heap[b]? = some (.cells F t (0, 0))) (d : TypeDesc) (hu : P.underlying ty = some d) (hd : d.isRow = true)
    (hi : (P.info? ty).map (·.size) = some F.size) (h : wpList P ops Q rest (a.put op.dst (.agg F)) w) : wpList P ops Q (op :: rest) a w := by
  unfold wpList
  rw [if_pos hw]
  exact .inl (wp_load_mid ty x ho b 0 hx F.toList d (fun j v hv => by rw [Nat.zero_add, cell_of_row w b j F t (0, 0) hb]; simpa using hv) hu hd (by simpa using hi) (by simpa using h))
theorem both_add (ta fr sa : Ad) (ans : Bool) (tok tid size tmo seq st : Int) (A : Nat → Addr) (W : World) (hs : Sent W.heap.size W A) : ∃ (k : Nat) (X : List Int), k < 15 ∧ X.length ≤ 100 ∧
    (∀ w, Gro none W w → Calls Tryd.prog 9 #[addV ta fr sa ans tok tid size tmo seq st] w fun e w' => ∃ q c, e = .returned (.tuple #[.slice q X.length c, errV A k]) ∧ Gro none w w' ∧ Lie w' q X) ∧
    (∀ w, Gro none W w → Calls Tryd.prog 14 #[addV ta fr sa ans tok tid size tmo seq st] w fun e w' => ∃ q c, e = .returned (.tuple #[.slice q X.length c, .int .i64 (codeOf k)]) ∧ Gro none w w' ∧ Lie w' q X) := by
  by_cases ok : okA ans tok tid size tmo seq st
  · refine ⟨0, addL ta fr sa ans tok tid size tmo seq st, by decide, by rw [addL_len _ _ _ _ _ _ _ _ _ _]; decide, fun w k => (add_any ta fr sa ans tok tid size tmo seq st w ok).mono ?_, fun w k => (radd_any ta fr sa ans tok tid size tmo seq st w ok).mono ?_⟩
    · rintro e w' ⟨v, rfl, hg, ho⟩
      obtain ⟨q, c, rfl, -, hli, -⟩ := ho.lie
      exact ⟨q, c, rfl, hg, hli⟩
    · rintro e w' ⟨v, rfl, hg, ho⟩
      obtain ⟨q, c, rfl, -, hli, -⟩ := ho.lie
      exact ⟨q, c, rfl, hg, hli⟩
  · refine ⟨3, [], by decide, by simp, fun w k => (add_bad ta fr sa ans tok tid size tmo seq st _ w ok (hs.far fun i hi => k.block i hi (by simp)).c2 (by have := hs.big; have := k.size; omega)).mono ?_, fun w k => (radd_bad ta fr sa ans tok tid size tmo seq st w ok).mono ?_⟩
    · rintro e w' ⟨rfl, hg⟩
      exact ⟨none, 0, rfl, hg, Lie.nil _ _⟩
    · rintro e w' ⟨rfl, hg⟩
      exact ⟨none, 0, rfl, hg, Lie.nil _ _⟩
theorem both_del (ta fr sa : Ad) (mine : Bool) (tid reason : Int) (A : Nat → Addr) (W : World) (hs : Sent W.heap.size W A) : ∃ (k : Nat) (X : List Int), k < 15 ∧ X.length ≤ 100 ∧
    (∀ w, Gro none W w → Calls Tryd.prog 10 #[delV ta fr sa mine tid reason] w fun e w' => ∃ q c, e = .returned (.tuple #[.slice q X.length c, errV A k]) ∧ Gro none w w' ∧ Lie w' q X) ∧
    (∀ w, Gro none W w → Calls Tryd.prog 15 #[delV ta fr sa mine tid reason] w fun e w' => ∃ q c, e = .returned (.tuple #[.slice q X.length c, .int .i64 (codeOf k)]) ∧ Gro none w w' ∧ Lie w' q X) := by
  by_cases ok : okD tid reason
  · refine ⟨0, delL ta fr sa mine tid reason, by decide, by rw [delL_len _ _ _ _ _ _]; decide, fun w k => (del_any ta fr sa mine tid reason w ok).mono ?_, fun w k => (rdel_any ta fr sa mine tid reason w ok).mono ?_⟩
    · rintro e w' ⟨v, rfl, hg, ho⟩
      obtain ⟨q, c, rfl, -, hli, -⟩ := ho.lie
      exact ⟨q, c, rfl, hg, hli⟩
    · rintro e w' ⟨v, rfl, hg, ho⟩
      obtain ⟨q, c, rfl, -, hli, -⟩ := ho.lie
      exact ⟨q, c, rfl, hg, hli⟩
  · refine ⟨3, [], by decide, by simp, fun w k => (del_bad ta fr sa mine tid reason _ w ok (hs.far fun i hi => k.block i hi (by simp)).c2 (by have := hs.big; have := k.size; omega)).mono ?_, fun w k => (rdel_bad ta fr sa mine tid reason w ok).mono ?_⟩
    · rintro e w' ⟨rfl, hg⟩
      exact ⟨none, 0, rfl, hg, Lie.nil _ _⟩
    · rintro e w' ⟨rfl, hg⟩
      exact ⟨none, 0, rfl, hg, Lie.nil _ _⟩
theorem both_radd (p : Option Addr) (cap : Nat) (bs : List Int) (A : Nat → Addr) (W : World) (hs : Sent W.heap.size W A) (hcap : bs.length ≤ cap) (hlen : bs.length ≤ 100000) (h : Lie W p bs) (hb : Bytes bs) : ∃ (ta fr sa : Ad) (ans : Bool) (tok tid size tmo seq st : Int) (k : Nat), k < 15 ∧
    (∀ w, Gro none W w → Calls Tryd.prog 12 #[.slice p bs.length cap] w fun e w' => e = .returned (.tuple #[addV ta fr sa ans tok tid size tmo seq st, errV A k]) ∧ Gro none w w') ∧
    (∀ w, Gro none W w → Calls Tryd.prog 17 #[.slice p bs.length cap] w fun e w' => e = .returned (.tuple #[addV ta fr sa ans tok tid size tmo seq st, .int .i64 (codeOf k)]) ∧ Gro none w w') := by
  have HR := fun w (k : Gro none W w) => readAdd_say p cap bs W.heap.size A w (hs.far fun i hi => k.block i hi (by simp)).four k.size hcap (h.gro k (by simp)) hb
  have HD := fun w (k : Gro none W w) => rreadAdd_say p cap bs w hcap hlen (h.gro k (by simp)) hb
  by_cases hr : longA bs 33 (kAdd bs) = 0
  · by_cases hi : isAdd bs
    · by_cases hy : bs.getD 25 0 = 1
      · have e : addOf bs = addV (ad6 bs 4) (ad6 bs 10) (ad6 bs 16) true (bs.getD 26 0) (num2 bs 29 % 64 / 4) (num2 bs 29 / 64) (num2 bs 31) 0 (num2 bs 27) := by
          unfold addOf
          rw [if_pos hy]
        exact ⟨_, _, _, _, _, _, _, _, _, _, 0, by decide, fun w k => (HR w k).mono fun e' w' ⟨h1, _, _, hg⟩ => ⟨by rw [h1 hr hi, e]; rfl, hg⟩, fun w k => (HD w k).mono fun e' w' ⟨h1, _, _, hg⟩ => ⟨by rw [h1 hr hi, e]; rfl, hg⟩⟩
      · have e : addOf bs = addV (ad6 bs 4) (ad6 bs 10) (ad6 bs 16) false (bs.getD 26 0) (num2 bs 27 % 64 / 4) (num2 bs 27 / 64) (num2 bs 29) (num2 bs 31 / 16) 0 := by
          unfold addOf
          rw [if_neg hy]
        exact ⟨_, _, _, _, _, _, _, _, _, _, 0, by decide, fun w k => (HR w k).mono fun e' w' ⟨h1, _, _, hg⟩ => ⟨by rw [h1 hr hi, e]; rfl, hg⟩, fun w k => (HD w k).mono fun e' w' ⟨h1, _, _, hg⟩ => ⟨by rw [h1 hr hi, e]; rfl, hg⟩⟩
    · exact ⟨adZ, adZ, adZ, false, 0, 0, 0, 0, 0, 0, 2, by decide, fun w k => (HR w k).mono fun e' w' ⟨_, h1, _, hg⟩ => ⟨h1 hr hi, hg⟩, fun w k => (HD w k).mono fun e' w' ⟨_, h1, _, hg⟩ => ⟨h1 hr hi, hg⟩⟩
  · exact ⟨adZ, adZ, adZ, false, 0, 0, 0, 0, 0, 0, _, longA_lt bs 33 (kAdd bs), fun w k => (HR w k).mono fun e' w' ⟨_, _, h1, hg⟩ => ⟨h1 hr, hg⟩, fun w k => (HD w k).mono fun e' w' ⟨_, _, h1, hg⟩ => ⟨h1 hr, hg⟩⟩
theorem both_rdel (p : Option Addr) (cap : Nat) (bs : List Int) (A : Nat → Addr) (W : World) (hs : Sent W.heap.size W A) (hcap : bs.length ≤ cap) (hlen : bs.length ≤ 100000) (h : Lie W p bs) (hb : Bytes bs) : ∃ (ta fr sa : Ad) (mine : Bool) (tid reason : Int) (k : Nat), k < 15 ∧
    (∀ w, Gro none W w → Calls Tryd.prog 16 #[.slice p bs.length cap] w fun e w' => e = .returned (.tuple #[delV ta fr sa mine tid reason, errV A k]) ∧ Gro none w w') ∧
    (∀ w, Gro none W w → Calls Tryd.prog 18 #[.slice p bs.length cap] w fun e w' => e = .returned (.tuple #[delV ta fr sa mine tid reason, .int .i64 (codeOf k)]) ∧ Gro none w w') := by
  have HR := fun w (k : Gro none W w) => readDel_say p cap bs W.heap.size A w (hs.far fun i hi => k.block i hi (by simp)).four k.size hcap (h.gro k (by simp)) hb
  have HD := fun w (k : Gro none W w) => rreadDel_say p cap bs w hcap hlen (h.gro k (by simp)) hb
  by_cases hr : longA bs 30 (kDel bs) = 0
  · by_cases hi : isDel bs
    · exact ⟨_, _, _, _, _, _, 0, by decide, fun w k => (HR w k).mono fun e' w' ⟨h1, _, _, hg⟩ => ⟨h1 hr hi, hg⟩, fun w k => (HD w k).mono fun e' w' ⟨h1, _, _, hg⟩ => ⟨h1 hr hi, hg⟩⟩
    · exact ⟨adZ, adZ, adZ, false, 0, 0, 2, by decide, fun w k => (HR w k).mono fun e' w' ⟨_, h1, _, hg⟩ => ⟨h1 hr hi, hg⟩, fun w k => (HD w k).mono fun e' w' ⟨_, h1, _, hg⟩ => ⟨h1 hr hi, hg⟩⟩
  · exact ⟨adZ, adZ, adZ, false, 0, 0, _, longA_lt bs 30 (kDel bs), fun w k => (HR w k).mono fun e' w' ⟨_, _, h1, hg⟩ => ⟨h1 hr, hg⟩, fun w k => (HD w k).mono fun e' w' ⟨_, _, h1, hg⟩ => ⟨h1 hr, hg⟩⟩
set_option maxHeartbeats 16000000 in
set_option maxRecDepth 100000 in
theorem says5_any (ta fr sa da df ds : Ad) (ans : Bool) (tok tid size tmo seq st : Int) (mine : Bool) (dti dre : Int) (pb : Option Addr) (cap : Nat) (bs : List Int) (A : Nat → Addr) (W : World) (hs : Sent W.heap.size W A)
    (hcap : bs.length ≤ cap) (hl : Lie W pb bs) (hb : Bytes bs) :
    Calls Tryd.prog 5 #[addV ta fr sa ans tok tid size tmo seq st, delV da df ds mine dti dre, .slice pb bs.length cap] W fun e w' => e = .returned (.bool true) ∧ Far W.heap.size W w' := by
  have HREADA := Lib.hid (fun (h60 : bs.length ≤ 60) => both_radd pb cap bs A W hs hcap (by omega) hl hb)
  have HREADD := Lib.hid (fun (h60 : bs.length ≤ 60) => both_rdel pb cap bs A W hs hcap (by omega) hl hb)
  obtain ⟨k1, X1, hk1, hX1, hA1, hA2⟩ := both_add ta fr sa ans tok tid size tmo seq st A W hs
  obtain ⟨k2, X2, hk2, hX2, hD1, hD2⟩ := both_del da df ds mine dti dre A W hs
  have HIS : Hid (∀ k, k < 15 → ∀ w, Gro none W w → Calls Tryd.prog 11 #[errV A k, .int .i64 (codeOf k)] w fun e w' => e = .returned (.bool true) ∧ Gro none w w') := fun k hk w kk => (is_any W.heap.size w A (hs.far fun i hi => kk.block i hi (by simp)) kk.size k hk (codeOf k)).mono fun e w' ⟨he, hg⟩ => ⟨by rw [he, decide_eq_true rfl], hg⟩
  have HI1 := Lib.hid (HIS.out k1 hk1)
  have HI2 := Lib.hid (HIS.out k2 hk2)
  have HA1 := Lib.hid hA1
  have HA2 := Lib.hid hA2
  have HD1 := Lib.hid hD1
  have HD2 := Lib.hid hD2
  have HXL := Lib.hid (And.intro hX1 hX2)
  clear hs hcap hl hb hk1 hk2 hX1 hX2 hA1 hA2 hD1 hD2
  generalize errV A k1 = u1 at *
  generalize errV A k2 = u2 at *
  generalize codeOf k1 = n1 at *
  generalize codeOf k2 = n2 at *
  generalize bs.length = n at *
  obtain ⟨t0, t1, t2, t3, t4, t5⟩ := ta
  obtain ⟨f0, f1, f2, f3, f4, f5⟩ := fr
  obtain ⟨b0, b1, b2, b3, b4, b5⟩ := sa
  obtain ⟨g0, g1, g2, g3, g4, g5⟩ := da
  obtain ⟨h0, h1, h2, h3, h4, h5⟩ := df
  obtain ⟨i0, i1, i2, i3, i4, i5⟩ := ds
  unfold addV at HA1 HA2 ⊢
  unfold delV at HD1 HD2 ⊢
  simp only at HA1 HA2 HD1 HD2 ⊢
  go_enter Tryd.func5, Tryd.ntmps5
  go_wp2_with fail
  have hgb : Gro none W ((W.alloc (.cells #[.int .u8 t0, .int .u8 t1, .int .u8 t2, .int .u8 t3, .int .u8 t4, .int .u8 t5, .int .u8 f0, .int .u8 f1, .int .u8 f2, .int .u8 f3, .int .u8 f4, .int .u8 f5, .int .u8 b0, .int .u8 b1, .int .u8 b2, .int .u8 b3, .int .u8 b4, .int .u8 b5, .bool ans, .int .i64 tok, .int .i64 tid, .int .i64 size, .int .i64 tmo, .int .i64 seq, .int .i64 st] 27)).alloc (.cells #[.int .u8 g0, .int .u8 g1, .int .u8 g2, .int .u8 g3, .int .u8 g4, .int .u8 g5, .int .u8 h0, .int .u8 h1, .int .u8 h2, .int .u8 h3, .int .u8 h4, .int .u8 h5, .int .u8 i0, .int .u8 i1, .int .u8 i2, .int .u8 i3, .int .u8 i4, .int .u8 i5, .bool mine, .int .i64 dti, .int .i64 dre] 36)) := ((Gro.refl _ _).alloc _).alloc _
  have hbx : ((W.alloc (.cells #[.int .u8 t0, .int .u8 t1, .int .u8 t2, .int .u8 t3, .int .u8 t4, .int .u8 t5, .int .u8 f0, .int .u8 f1, .int .u8 f2, .int .u8 f3, .int .u8 f4, .int .u8 f5, .int .u8 b0, .int .u8 b1, .int .u8 b2, .int .u8 b3, .int .u8 b4, .int .u8 b5, .bool ans, .int .i64 tok, .int .i64 tid, .int .i64 size, .int .i64 tmo, .int .i64 seq, .int .i64 st] 27)).alloc (.cells #[.int .u8 g0, .int .u8 g1, .int .u8 g2, .int .u8 g3, .int .u8 g4, .int .u8 g5, .int .u8 h0, .int .u8 h1, .int .u8 h2, .int .u8 h3, .int .u8 h4, .int .u8 h5, .int .u8 i0, .int .u8 i1, .int .u8 i2, .int .u8 i3, .int .u8 i4, .int .u8 i5, .bool mine, .int .i64 dti, .int .i64 dre] 36)).heap[W.heap.size]? = some (.cells #[.int .u8 t0, .int .u8 t1, .int .u8 t2, .int .u8 t3, .int .u8 t4, .int .u8 t5, .int .u8 f0, .int .u8 f1, .int .u8 f2, .int .u8 f3, .int .u8 f4, .int .u8 f5, .int .u8 b0, .int .u8 b1, .int .u8 b2, .int .u8 b3, .int .u8 b4, .int .u8 b5, .bool ans, .int .i64 tok, .int .i64 tid, .int .i64 size, .int .i64 tmo, .int .i64 seq, .int .i64 st] 27 (0, 0)) := (Below.heap_alloc _ _ _ (by simp)).trans (heap_alloc_new W _)
  have hby : ((W.alloc (.cells #[.int .u8 t0, .int .u8 t1, .int .u8 t2, .int .u8 t3, .int .u8 t4, .int .u8 t5, .int .u8 f0, .int .u8 f1, .int .u8 f2, .int .u8 f3, .int .u8 f4, .int .u8 f5, .int .u8 b0, .int .u8 b1, .int .u8 b2, .int .u8 b3, .int .u8 b4, .int .u8 b5, .bool ans, .int .i64 tok, .int .i64 tid, .int .i64 size, .int .i64 tmo, .int .i64 seq, .int .i64 st] 27)).alloc (.cells #[.int .u8 g0, .int .u8 g1, .int .u8 g2, .int .u8 g3, .int .u8 g4, .int .u8 g5, .int .u8 h0, .int .u8 h1, .int .u8 h2, .int .u8 h3, .int .u8 h4, .int .u8 h5, .int .u8 i0, .int .u8 i1, .int .u8 i2, .int .u8 i3, .int .u8 i4, .int .u8 i5, .bool mine, .int .i64 dti, .int .i64 dre] 36)).heap[W.heap.size + 1]? = some (.cells #[.int .u8 g0, .int .u8 g1, .int .u8 g2, .int .u8 g3, .int .u8 g4, .int .u8 g5, .int .u8 h0, .int .u8 h1, .int .u8 h2, .int .u8 h3, .int .u8 h4, .int .u8 h5, .int .u8 i0, .int .u8 i1, .int .u8 i2, .int .u8 i3, .int .u8 i4, .int .u8 i5, .bool mine, .int .i64 dti, .int .i64 dre] 36 (0, 0)) := by
    have h := heap_alloc_new (W.alloc (.cells #[.int .u8 t0, .int .u8 t1, .int .u8 t2, .int .u8 t3, .int .u8 t4, .int .u8 t5, .int .u8 f0, .int .u8 f1, .int .u8 f2, .int .u8 f3, .int .u8 f4, .int .u8 f5, .int .u8 b0, .int .u8 b1, .int .u8 b2, .int .u8 b3, .int .u8 b4, .int .u8 b5, .bool ans, .int .i64 tok, .int .i64 tid, .int .i64 size, .int .i64 tmo, .int .i64 seq, .int .i64 st] 27)) (.cells #[.int .u8 g0, .int .u8 g1, .int .u8 g2, .int .u8 g3, .int .u8 g4, .int .u8 g5, .int .u8 h0, .int .u8 h1, .int .u8 h2, .int .u8 h3, .int .u8 h4, .int .u8 h5, .int .u8 i0, .int .u8 i1, .int .u8 i2, .int .u8 i3, .int .u8 i4, .int .u8 i5, .bool mine, .int .i64 dti, .int .i64 dre] 36)
    simp only [show ∀ (w : World) (o : Obj), (w.alloc o).heap.size = w.heap.size + 1 from fun w o => by simp] at h
    exact h
  generalize (W.alloc (.cells #[.int .u8 t0, .int .u8 t1, .int .u8 t2, .int .u8 t3, .int .u8 t4, .int .u8 t5, .int .u8 f0, .int .u8 f1, .int .u8 f2, .int .u8 f3, .int .u8 f4, .int .u8 f5, .int .u8 b0, .int .u8 b1, .int .u8 b2, .int .u8 b3, .int .u8 b4, .int .u8 b5, .bool ans, .int .i64 tok, .int .i64 tid, .int .i64 size, .int .i64 tmo, .int .i64 seq, .int .i64 st] 27)).alloc (.cells #[.int .u8 g0, .int .u8 g1, .int .u8 g2, .int .u8 g3, .int .u8 g4, .int .u8 g5, .int .u8 h0, .int .u8 h1, .int .u8 h2, .int .u8 h3, .int .u8 h4, .int .u8 h5, .int .u8 i0, .int .u8 i1, .int .u8 i2, .int .u8 i3, .int .u8 i4, .int .u8 i5, .bool mine, .int .i64 dti, .int .i64 dre] 36) = wb at *
  have HBX := Lib.hid (fun w' (k : Gro none wb w') => (k.block W.heap.size (blk_in hbx) (by simp)).trans hbx)
  have HBY := Lib.hid (fun w' (k : Gro none wb w') => (k.block (W.heap.size + 1) (blk_in hby) (by simp)).trans hby)
  have HG := Lib.hid hgb
  clear hgb hbx hby
  refine (first5_any wb).mono ?_
  rintro e w1 ⟨rfl, hg1⟩
  have HW := Lib.hid hg1
  clear hg1
  by_cases h60 : n ≤ 60
  · have i60 : (n : Int) ≤ 60 := by omega
    obtain ⟨xa, xf, xs, can, ck, ci, cz, cm, cq, ct, k3, hk3, hr1, hr2⟩ := HREADA.out h60
    obtain ⟨ya, yf, ys, em, et, er, k4, hk4, hr3, hr4⟩ := HREADD.out h60
    have HR1 := Lib.hid hr1
    have HR2 := Lib.hid hr2
    have HR3 := Lib.hid hr3
    have HR4 := Lib.hid hr4
    have HI3 := Lib.hid (HIS.out k3 hk3)
    have HI4 := Lib.hid (HIS.out k4 hk4)
    have HSA : Hid (∀ w, Calls Tryd.prog 13 #[addV xa xf xs can ck ci cz cm cq ct, addV xa xf xs can ck ci cz cm cq ct] w fun e w' => e = .returned (.bool true) ∧ Gro none w w') := fun w => (sameAdd_any xa xf xs xa xf xs can can ck ci cz cm cq ct ck ci cz cm cq ct w).mono fun e w' ⟨he, hg⟩ => ⟨by rw [he, decide_eq_true ⟨rfl, rfl, rfl, rfl, rfl, rfl, rfl, rfl, rfl, rfl⟩], hg⟩
    have HSD : Hid (∀ w, Calls Tryd.prog 20 #[delV ya yf ys em et er, delV ya yf ys em et er] w fun e w' => e = .returned (.bool true) ∧ Gro none w w') := fun w => (sameDel_any ya yf ys ya yf ys em em et er et er w).mono fun e w' ⟨he, hg⟩ => ⟨by rw [he, decide_eq_true ⟨rfl, rfl, rfl, rfl, rfl, rfl⟩], hg⟩
    clear hk3 hk4 hr1 hr2 hr3 hr4 HREADA HREADD HIS
    generalize errV A k3 = u3 at *
    generalize errV A k4 = u4 at *
    generalize codeOf k3 = n3 at *
    generalize codeOf k4 = n4 at *
    obtain ⟨x0, x1, x2, x3, x4, x5⟩ := xa
    obtain ⟨y0, y1, y2, y3, y4, y5⟩ := xf
    obtain ⟨z0, z1, z2, z3, z4, z5⟩ := xs
    obtain ⟨k0, k1, k2, k3, k4, k5⟩ := ya
    obtain ⟨l0, l1, l2, l3, l4, l5⟩ := yf
    obtain ⟨m0, m1, m2, m3, m4, m5⟩ := ys
    unfold addV at HR1 HR2 HSA
    unfold delV at HR3 HR4 HSD
    simp only at HR1 HR2 HSA HR3 HR4 HSD
    clear h60
    skip
    as_aux_lemma =>
      have hr := HBX.out _ HW.out
      go_wp2_with (refine load_row rfl _ _ rfl _ rfl _ _ hr _ Tryd.underlying27 rfl (by kernel_rfl) ?_)
      clear hr
      refine (HA1.out _ (HG.out.trans HW.out)).mono ?_
      rintro e v1 ⟨q1, a1, rfl, hg, hli⟩
      have HW := Lib.hid (HW.out.trans hg)
      have HL1 := Lib.hid (fun w' (k : Gro none v1 w') => hli.gro k (by simp))
      clear hg hli HA1
      have hr := HBY.out _ HW.out
      go_wp2_with (refine load_row rfl _ _ rfl _ rfl _ _ hr _ Tryd.underlying36 rfl (by kernel_rfl) ?_)
      clear hr
      refine (HD1.out _ (HG.out.trans HW.out)).mono ?_
      rintro e v2 ⟨q2, a2, rfl, hg, hli⟩
      have HW := Lib.hid (HW.out.trans hg)
      have HL2 := Lib.hid (fun w' (k : Gro none v2 w') => hli.gro k (by simp))
      have HL1 := Lib.hid (fun w' (k : Gro none v2 w') => HL1.out w' (hg.trans k))
      clear hg hli HD1
      have hr := HBX.out _ HW.out
      go_wp2_with (refine load_row rfl _ _ rfl _ rfl _ _ hr _ Tryd.underlying27 rfl (by kernel_rfl) ?_)
      clear hr
      refine (HA2.out _ (HG.out.trans HW.out)).mono ?_
      rintro e v3 ⟨q3, a3, rfl, hg, hli⟩
      have HW := Lib.hid (HW.out.trans hg)
      have HL3 := Lib.hid (fun w' (k : Gro none v3 w') => hli.gro k (by simp))
      have HL1 := Lib.hid (fun w' (k : Gro none v3 w') => HL1.out w' (hg.trans k))
      have HL2 := Lib.hid (fun w' (k : Gro none v3 w') => HL2.out w' (hg.trans k))
      clear hg hli HA2
      have hr := HBY.out _ HW.out
      go_wp2_with (refine load_row rfl _ _ rfl _ rfl _ _ hr _ Tryd.underlying36 rfl (by kernel_rfl) ?_)
      clear hr
      refine (HD2.out _ (HG.out.trans HW.out)).mono ?_
      rintro e v4 ⟨q4, a4, rfl, hg, hli⟩
      have HW := Lib.hid (HW.out.trans hg)
      have HL4 := Lib.hid (fun w' (k : Gro none v4 w') => hli.gro k (by simp))
      have HS1 := Lib.hid (fun w' (k : Gro none v4 w') => (sameBytes_any q1 q3 a1 a3 X1 X1 w' (HL1.out w' (hg.trans k)) (HL3.out w' (hg.trans k)) (by have := HXL.out.1; omega)).mono fun e w'' ⟨he, hg⟩ => (⟨by rw [he, decide_eq_true rfl], hg⟩ : e = Ending.returned (.bool true) ∧ Gro none w' w''))
      have HS2 := Lib.hid (fun w' (k : Gro none v4 w') => (sameBytes_any q2 q4 a2 a4 X2 X2 w' (HL2.out w' (hg.trans k)) (HL4.out w' k) (by have := HXL.out.2; omega)).mono fun e w'' ⟨he, hg⟩ => (⟨by rw [he, decide_eq_true rfl], hg⟩ : e = Ending.returned (.bool true) ∧ Gro none w' w''))
      clear hg hli HD2 HL1 HL2 HL3 HL4 HXL
      generalize X1.length = lx1 at *
      generalize X2.length = lx2 at *
      have HV := Lib.hid (Gro.refl none v4)
      go_wp2_with fail
      refine (HR1.out _ (HG.out.trans (HW.out.trans HV.out))).mono ?_
      rintro e w5 ⟨rfl, hg⟩
      have HV := Lib.hid (HV.out.trans hg)
      clear hg HR1
      go_wp2_with (refine alloc_row rfl 27 rfl 16 rfl #[.int .u8 0, .int .u8 0, .int .u8 0, .int .u8 0, .int .u8 0, .int .u8 0, .int .u8 0, .int .u8 0, .int .u8 0, .int .u8 0, .int .u8 0, .int .u8 0, .int .u8 0, .int .u8 0, .int .u8 0, .int .u8 0, .int .u8 0, .int .u8 0, .bool false, .int .i64 0, .int .i64 0, .int .i64 0, .int .i64 0, .int .i64 0, .int .i64 0] 27 add_run rfl (.tmp 54) rfl (by first | (simp; done) | (simp [Act.put]; done)) #[.int .u8 x0, .int .u8 x1, .int .u8 x2, .int .u8 x3, .int .u8 x4, .int .u8 x5, .int .u8 y0, .int .u8 y1, .int .u8 y2, .int .u8 y3, .int .u8 y4, .int .u8 y5, .int .u8 z0, .int .u8 z1, .int .u8 z2, .int .u8 z3, .int .u8 z4, .int .u8 z5, .bool can, .int .i64 ck, .int .i64 ci, .int .i64 cz, .int .i64 cm, .int .i64 cq, .int .i64 ct] (by rfl) rfl (by kernel_rfl) (by simp [Value.oneCell']) ?_)
      intro yy5 hg hr
      have HQ5 := Lib.hid (fun w' (k : Gro none yy5 w') => (k.block w5.heap.size (blk_in hr) (by simp)).trans hr)
      have HV := Lib.hid (HV.out.trans hg)
      clear hg hr
      generalize w5.heap.size = r5 at *
      go_wp2_with fail
      refine (HR3.out _ (HG.out.trans (HW.out.trans HV.out))).mono ?_
      rintro e w6 ⟨rfl, hg⟩
      have HQ5 := Lib.hid (fun w' (k : Gro none w6 w') => HQ5.out w' (hg.trans k))
      have HV := Lib.hid (HV.out.trans hg)
      clear hg HR3
      go_wp2_with (refine alloc_row rfl 36 rfl 18 rfl #[.int .u8 0, .int .u8 0, .int .u8 0, .int .u8 0, .int .u8 0, .int .u8 0, .int .u8 0, .int .u8 0, .int .u8 0, .int .u8 0, .int .u8 0, .int .u8 0, .int .u8 0, .int .u8 0, .int .u8 0, .int .u8 0, .int .u8 0, .int .u8 0, .bool false, .int .i64 0, .int .i64 0] 36 del_run rfl (.tmp 59) rfl (by first | (simp; done) | (simp [Act.put]; done)) #[.int .u8 k0, .int .u8 k1, .int .u8 k2, .int .u8 k3, .int .u8 k4, .int .u8 k5, .int .u8 l0, .int .u8 l1, .int .u8 l2, .int .u8 l3, .int .u8 l4, .int .u8 l5, .int .u8 m0, .int .u8 m1, .int .u8 m2, .int .u8 m3, .int .u8 m4, .int .u8 m5, .bool em, .int .i64 et, .int .i64 er] (by rfl) rfl (by kernel_rfl) (by simp [Value.oneCell']) ?_)
      intro yy6 hg hr
      have HQ5 := Lib.hid (fun w' (k : Gro none yy6 w') => HQ5.out w' (hg.trans k))
      have HQ6 := Lib.hid (fun w' (k : Gro none yy6 w') => (k.block w6.heap.size (blk_in hr) (by simp)).trans hr)
      have HV := Lib.hid (HV.out.trans hg)
      clear hg hr
      generalize w6.heap.size = r6 at *
      go_wp2_with fail
      refine (HR2.out _ (HG.out.trans (HW.out.trans HV.out))).mono ?_
      rintro e w7 ⟨rfl, hg⟩
      have HQ5 := Lib.hid (fun w' (k : Gro none w7 w') => HQ5.out w' (hg.trans k))
      have HQ6 := Lib.hid (fun w' (k : Gro none w7 w') => HQ6.out w' (hg.trans k))
      have HV := Lib.hid (HV.out.trans hg)
      clear hg HR2
      go_wp2_with (refine alloc_row rfl 27 rfl 20 rfl #[.int .u8 0, .int .u8 0, .int .u8 0, .int .u8 0, .int .u8 0, .int .u8 0, .int .u8 0, .int .u8 0, .int .u8 0, .int .u8 0, .int .u8 0, .int .u8 0, .int .u8 0, .int .u8 0, .int .u8 0, .int .u8 0, .int .u8 0, .int .u8 0, .bool false, .int .i64 0, .int .i64 0, .int .i64 0, .int .i64 0, .int .i64 0, .int .i64 0] 27 add_run rfl (.tmp 64) rfl (by first | (simp; done) | (simp [Act.put]; done)) #[.int .u8 x0, .int .u8 x1, .int .u8 x2, .int .u8 x3, .int .u8 x4, .int .u8 x5, .int .u8 y0, .int .u8 y1, .int .u8 y2, .int .u8 y3, .int .u8 y4, .int .u8 y5, .int .u8 z0, .int .u8 z1, .int .u8 z2, .int .u8 z3, .int .u8 z4, .int .u8 z5, .bool can, .int .i64 ck, .int .i64 ci, .int .i64 cz, .int .i64 cm, .int .i64 cq, .int .i64 ct] (by rfl) rfl (by kernel_rfl) (by simp [Value.oneCell']) ?_)
      intro yy7 hg hr
      have HQ5 := Lib.hid (fun w' (k : Gro none yy7 w') => HQ5.out w' (hg.trans k))
      have HQ6 := Lib.hid (fun w' (k : Gro none yy7 w') => HQ6.out w' (hg.trans k))
      have HQ7 := Lib.hid (fun w' (k : Gro none yy7 w') => (k.block w7.heap.size (blk_in hr) (by simp)).trans hr)
      have HV := Lib.hid (HV.out.trans hg)
      clear hg hr
      generalize w7.heap.size = r7 at *
      go_wp2_with fail
      refine (HR4.out _ (HG.out.trans (HW.out.trans HV.out))).mono ?_
      rintro e w8 ⟨rfl, hg⟩
      have HQ5 := Lib.hid (fun w' (k : Gro none w8 w') => HQ5.out w' (hg.trans k))
      have HQ6 := Lib.hid (fun w' (k : Gro none w8 w') => HQ6.out w' (hg.trans k))
      have HQ7 := Lib.hid (fun w' (k : Gro none w8 w') => HQ7.out w' (hg.trans k))
      have HV := Lib.hid (HV.out.trans hg)
      clear hg HR4
      go_wp2_with (refine alloc_row rfl 36 rfl 22 rfl #[.int .u8 0, .int .u8 0, .int .u8 0, .int .u8 0, .int .u8 0, .int .u8 0, .int .u8 0, .int .u8 0, .int .u8 0, .int .u8 0, .int .u8 0, .int .u8 0, .int .u8 0, .int .u8 0, .int .u8 0, .int .u8 0, .int .u8 0, .int .u8 0, .bool false, .int .i64 0, .int .i64 0] 36 del_run rfl (.tmp 69) rfl (by first | (simp; done) | (simp [Act.put]; done)) #[.int .u8 k0, .int .u8 k1, .int .u8 k2, .int .u8 k3, .int .u8 k4, .int .u8 k5, .int .u8 l0, .int .u8 l1, .int .u8 l2, .int .u8 l3, .int .u8 l4, .int .u8 l5, .int .u8 m0, .int .u8 m1, .int .u8 m2, .int .u8 m3, .int .u8 m4, .int .u8 m5, .bool em, .int .i64 et, .int .i64 er] (by rfl) rfl (by kernel_rfl) (by simp [Value.oneCell']) ?_)
      intro yy8 hg hr
      have HQ5 := Lib.hid (fun w' (k : Gro none yy8 w') => HQ5.out w' (hg.trans k))
      have HQ6 := Lib.hid (fun w' (k : Gro none yy8 w') => HQ6.out w' (hg.trans k))
      have HQ7 := Lib.hid (fun w' (k : Gro none yy8 w') => HQ7.out w' (hg.trans k))
      have HQ8 := Lib.hid (fun w' (k : Gro none yy8 w') => (k.block w8.heap.size (blk_in hr) (by simp)).trans hr)
      have HV := Lib.hid (HV.out.trans hg)
      clear hg hr
      generalize w8.heap.size = r8 at *
      have HU := Lib.hid (Gro.refl none yy8)
      (try go_wp2_with fail)
      refine (HS1.out _ (HV.out.trans HU.out)).mono ?_
      rintro e o1 ⟨rfl, hg⟩
      have HU := Lib.hid (HU.out.trans hg)
      clear hg HS1
      (try go_wp2_with fail)
      refine (HI1.out _ (HG.out.trans (HW.out.trans (HV.out.trans HU.out)))).mono ?_
      rintro e o2 ⟨rfl, hg⟩
      have HU := Lib.hid (HU.out.trans hg)
      clear hg HI1
      (try go_wp2_with fail)
      refine (HS2.out _ (HV.out.trans HU.out)).mono ?_
      rintro e o3 ⟨rfl, hg⟩
      have HU := Lib.hid (HU.out.trans hg)
      clear hg HS2
      (try go_wp2_with fail)
      refine (HI2.out _ (HG.out.trans (HW.out.trans (HV.out.trans HU.out)))).mono ?_
      rintro e o4 ⟨rfl, hg⟩
      have HU := Lib.hid (HU.out.trans hg)
      clear hg HI2
      have ra := HQ5.out _ HU.out
      have rb := HQ7.out _ HU.out
      go_wp2_with (first | (refine load_row_g (by rfl) _ _ rfl _ rfl _ _ ra _ Tryd.underlying27 rfl (by kernel_rfl) ?_) | (refine load_row_g (by rfl) _ _ rfl _ rfl _ _ rb _ Tryd.underlying27 rfl (by kernel_rfl) ?_))
      clear ra rb
      (try go_wp2_with fail)
      refine (HSA.out _).mono ?_
      rintro e o5 ⟨rfl, hg⟩
      have HU := Lib.hid (HU.out.trans hg)
      clear hg HSA
      (try go_wp2_with fail)
      refine (HI3.out _ (HG.out.trans (HW.out.trans (HV.out.trans HU.out)))).mono ?_
      rintro e o6 ⟨rfl, hg⟩
      have HU := Lib.hid (HU.out.trans hg)
      clear hg HI3
      have ra := HQ6.out _ HU.out
      have rb := HQ8.out _ HU.out
      go_wp2_with (first | (refine load_row_g (by rfl) _ _ rfl _ rfl _ _ ra _ Tryd.underlying36 rfl (by kernel_rfl) ?_) | (refine load_row_g (by rfl) _ _ rfl _ rfl _ _ rb _ Tryd.underlying36 rfl (by kernel_rfl) ?_))
      clear ra rb
      (try go_wp2_with fail)
      refine (HSD.out _).mono ?_
      rintro e o7 ⟨rfl, hg⟩
      have HU := Lib.hid (HU.out.trans hg)
      clear hg HSD
      (try go_wp2_with fail)
      refine (HI4.out _ (HG.out.trans (HW.out.trans (HV.out.trans HU.out)))).mono ?_
      rintro e o8 ⟨rfl, hg⟩
      have HU := Lib.hid (HU.out.trans hg)
      clear hg HI4
      go_wp2_with fail
      go_ret
      exact ⟨rfl, (Far.refl _ _).gro (HG.out.trans (HW.out.trans (HV.out.trans HU.out))) (Nat.le_refl _) (fun _ e => by cases e)⟩
  · have i60 : 60 < (n : Int) := by omega
    go_wp2_with fail
    go_ret
    exact ⟨rfl, (Far.refl _ _).gro (HG.out.trans HW.out) (Nat.le_refl _) (fun _ e => by cases e)⟩
end Go.Proofs.YtflckkeaakmojaaDoor
