/-
  THE WALK OF ActBack: each session's frame that may be is read from its bytes as it is, and not as the other one; what is read has just these bytes; it answers true. No condition but the fourteen sentinels' own ('Sent'), that the addresses are bytes and that the bytes lie where the slice says.
-/
import Derived.Test.YtflckkeaakmojaaDoorActForm
import Derived.Test.YtflckkeaakmojaaDoorActSame
import Derived.Test.YtflckkeaakmojaaDoorSent
import Derived.Test.YtflckkeaakmojaaDoorFrame
import Derived.Deep.Cut
import Derived.Laws.OwnMore
namespace Go.Proofs.YtflckkeaakmojaaDoor
open Go.RowKit

/-- The load of a whole row, in an operation that hangs on a test that came out so. -/
theorem load_row_g {P : Program} {ops : Array Oper} {rest : List Oper} {op : Oper} {a : Act} {w : World} {Q : Exit → Act → World → Prop} (hw : Region.wanted op (yielded ops a.tmps) = true) (ty : TypeId) (x : Operand) (ho : op.op = .load ty x)
    (b : Nat) (hx : a.eval x = .pointer (some ⟨b, 0, none⟩)) (F : Array Value) (t : TypeId) (hb : w.heap[b]? = some (.cells F t (0, 0))) (d : TypeDesc) (hu : P.underlying ty = some d) (hd : d.isRow = true)
    (hi : (P.info? ty).map (·.size) = some F.size) (h : wpList P ops Q rest (a.put op.dst (.agg F)) w) : wpList P ops Q (op :: rest) a w := by
  unfold wpList
  rw [if_pos hw]
  exact .inl (wp_load_mid ty x ho b 0 hx F.toList d (fun j v hv => by rw [Nat.zero_add, cell_of_row w b j F t (0, 0) hb]; simpa using hv) hu hd (by simpa using hi) (by simpa using h))
/-- An Add as bytes: whether it may be, its bytes, its error. -/
theorem add_either (ta fr sa : Ad) (ans : Bool) (tok tid size tmo seq st : Int) (B : Nat) (A : Nat → Addr) (W : World) (hs : Sent B W A) (hB : B ≤ W.heap.size) : ∃ (d : Bool) (X : List Int) (u : Value),
    (d = true → okA ans tok tid size tmo seq st ∧ X = addL ta fr sa ans tok tid size tmo seq st ∧ u = .nilIface) ∧ (d = false → ∃ a, u = .iface 89 (.pointer (some a))) ∧
      ∀ w, Gro none W w → Calls Tryd.prog 9 #[addV ta fr sa ans tok tid size tmo seq st] w fun e w' => Wrown w w' e X u := by
  by_cases ok : okA ans tok tid size tmo seq st
  · exact ⟨true, _, _, fun _ => ⟨ok, rfl, rfl⟩, fun h => (by cases h), fun w k => (add_any ta fr sa ans tok tid size tmo seq st w ok).mono fun e w' ⟨v, he, hg, ho⟩ => he ▸ ho.wrown hg⟩
  · exact ⟨false, [], _, fun h => (by cases h), fun _ => ⟨A 2, rfl⟩, fun w k => (add_bad ta fr sa ans tok tid size tmo seq st _ w ok (hs.far (fun i hi => k.block i (by omega) (by simp))).c2 (by have := hs.big; have := k.size; omega)).mono fun e w' ⟨he, hg⟩ => he ▸ ⟨none, 0, rfl, hg, Own.none_ _ _⟩⟩
theorem del_either (ta fr sa : Ad) (mine : Bool) (tid reason : Int) (B : Nat) (A : Nat → Addr) (W : World) (hs : Sent B W A) (hB : B ≤ W.heap.size) : ∃ (d : Bool) (X : List Int) (u : Value),
    (d = true → okD tid reason ∧ X = delL ta fr sa mine tid reason ∧ u = .nilIface) ∧ (d = false → ∃ a, u = .iface 89 (.pointer (some a))) ∧
      ∀ w, Gro none W w → Calls Tryd.prog 10 #[delV ta fr sa mine tid reason] w fun e w' => Wrown w w' e X u := by
  by_cases ok : okD tid reason
  · exact ⟨true, _, _, fun _ => ⟨ok, rfl, rfl⟩, fun h => (by cases h), fun w k => (del_any ta fr sa mine tid reason w ok).mono fun e w' ⟨v, he, hg, ho⟩ => he ▸ ho.wrown hg⟩
  · exact ⟨false, [], _, fun h => (by cases h), fun _ => ⟨A 2, rfl⟩, fun w k => (del_bad ta fr sa mine tid reason _ w ok (hs.far (fun i hi => k.block i (by omega) (by simp))).c2 (by have := hs.big; have := k.size; omega)).mono fun e w' ⟨he, hg⟩ => he ▸ ⟨none, 0, rfl, hg, Own.none_ _ _⟩⟩
set_option maxHeartbeats 16000000 in
set_option maxRecDepth 100000 in
theorem back5_any (ta fr sa da df ds : Ad) (ans : Bool) (tok tid size tmo seq st : Int) (mine : Bool) (dti dre : Int) (pb : Option Addr) (cap : Nat) (bs : List Int) (A : Nat → Addr) (W : World) (hs : Sent W.heap.size W A) (hta : ∀ x ∈ adL ta, 0 ≤ x ∧ x < 256) (hfr : ∀ x ∈ adL fr, 0 ≤ x ∧ x < 256) (hsa : ∀ x ∈ adL sa, 0 ≤ x ∧ x < 256) (hda : ∀ x ∈ adL da, 0 ≤ x ∧ x < 256) (hdf : ∀ x ∈ adL df, 0 ≤ x ∧ x < 256) (hds : ∀ x ∈ adL ds, 0 ≤ x ∧ x < 256)
    (hcap : bs.length ≤ cap) (hl : Lie W pb bs) (hb : Bytes bs) :
    Calls Tryd.prog 6 #[addV ta fr sa ans tok tid size tmo seq st, delV da df ds mine dti dre, .slice pb bs.length cap] W fun e w' => e = .returned (.bool true) ∧ Far W.heap.size W w' := by
  obtain ⟨xa, xf, xs, can, ck, ci, cz, cm, cq, ct, ka, hka, hra⟩ := readAdd_form pb cap bs W.heap.size A W hs.four (Nat.le_refl _) hcap hl hb
  obtain ⟨ya, yf, ys, em, et, er, kd, hkd, hrd⟩ := readDel_form pb cap bs W.heap.size A W hs.four (Nat.le_refl _) hcap hl hb
  have HRA := Lib.hid hra
  have HRD := Lib.hid hrd
  have HWA : Hid (ka = 0 → ∀ w, Calls Tryd.prog 9 #[addV xa xf xs can ck ci cz cm cq ct] w fun e w' => Wrown w w' e bs .nilIface) := fun h w => (add_any xa xf xs can ck ci cz cm cq ct w (hka h).1).mono fun e w' ⟨v, he, hg, ho⟩ => he ▸ ((hka h).2 ▸ ho).wrown hg
  have HWD : Hid (kd = 0 → ∀ w, Calls Tryd.prog 10 #[delV ya yf ys em et er] w fun e w' => Wrown w w' e bs .nilIface) := fun h w => (del_any ya yf ys em et er w (hkd h).1).mono fun e w' ⟨v, he, hg, ho⟩ => he ▸ ((hkd h).2 ▸ ho).wrown hg
  obtain ⟨dA, X1, u1, hA1, hA2, hA3⟩ := add_either ta fr sa ans tok tid size tmo seq st W.heap.size A W hs (Nat.le_refl _)
  obtain ⟨dD, X2, u2, hD1, hD2, hD3⟩ := del_either da df ds mine dti dre W.heap.size A W hs (Nat.le_refl _)
  have HA1 := Lib.hid hA1
  have HA2 := Lib.hid hA2
  have HA3 := Lib.hid hA3
  have HD1 := Lib.hid hD1
  have HD2 := Lib.hid hD2
  have HD3 := Lib.hid hD3
  have HS4 : Hid (∀ w', Gro none W w' → Four W.heap.size w' A) := fun w' k => (hs.far fun i hi => k.block i hi (by simp)).four
  have HI5 : Hid (∀ w, Gro none W w → Calls Tryd.prog 11 #[errV A 5, .int .i64 105] w fun e w' => e = .returned (.bool true) ∧ Gro none w w') := fun w k => (is_any W.heap.size w A (hs.far fun i hi => k.block i hi (by simp)) k.size 5 (by decide) 105).mono fun e w' ⟨he, hg⟩ => ⟨by rw [he]; rfl, hg⟩
  have HBA : Hid (dA = true → X1.length = 33 ∧ u1 = .nilIface ∧ ∀ p c, 33 ≤ c → ∀ w, Gro none W w → Lie w p X1 →
      (Calls Tryd.prog 12 #[.slice p 33 c] w fun e w' => e = .returned (.tuple #[addV ta fr sa ans tok tid size tmo seq st, .nilIface]) ∧ Gro none w w') ∧
      (Calls Tryd.prog 16 #[.slice p 33 c] w fun e w' => e = .returned (.tuple #[delV adZ adZ adZ false 0 0, errV A 5]) ∧ Gro none w w')) := fun h => by
    obtain ⟨ok, rfl, hu⟩ := HA1.out h
    exact ⟨addL_len _ _ _ _ _ _ _ _ _ _, hu, fun p c hc w k hl => add_back ta fr sa ans tok tid size tmo seq st ok hta hfr hsa p c hc W.heap.size A w (HS4.out w k) k.size hl⟩
  have HBD : Hid (dD = true → X2.length = 30 ∧ u2 = .nilIface ∧ ∀ p c, 30 ≤ c → ∀ w, Gro none W w → Lie w p X2 →
      (Calls Tryd.prog 16 #[.slice p 30 c] w fun e w' => e = .returned (.tuple #[delV da df ds mine dti dre, .nilIface]) ∧ Gro none w w') ∧
      (Calls Tryd.prog 12 #[.slice p 30 c] w fun e w' => e = .returned (.tuple #[addV adZ adZ adZ false 0 0 0 0 0 0, errV A 5]) ∧ Gro none w w')) := fun h => by
    obtain ⟨ok, rfl, hu⟩ := HD1.out h
    exact ⟨delL_len _ _ _ _ _ _, hu, fun p c hc w k hl => del_back da df ds mine dti dre ok hda hdf hds p c hc W.heap.size A w (HS4.out w k) k.size hl⟩
  have HSA : Hid (∀ w, Calls Tryd.prog 13 #[addV ta fr sa ans tok tid size tmo seq st, addV ta fr sa ans tok tid size tmo seq st] w fun e w' => e = .returned (.bool true) ∧ Gro none w w') := fun w => (sameAdd_any ta fr sa ta fr sa ans ans tok tid size tmo seq st tok tid size tmo seq st w).mono fun e w' ⟨he, hg⟩ => ⟨by rw [he, decide_eq_true ⟨rfl, rfl, rfl, rfl, rfl, rfl, rfl, rfl, rfl, rfl⟩], hg⟩
  have HSD : Hid (∀ w, Calls Tryd.prog 20 #[delV da df ds mine dti dre, delV da df ds mine dti dre] w fun e w' => e = .returned (.bool true) ∧ Gro none w w') := fun w => (sameDel_any da df ds da df ds mine mine dti dre dti dre w).mono fun e w' ⟨he, hg⟩ => ⟨by rw [he, decide_eq_true ⟨rfl, rfl, rfl, rfl, rfl, rfl⟩], hg⟩
  have HSB : Hid (bs.length ≤ 60 → ∀ w q c, Gro none W w → Lie w q bs → Calls Tryd.prog 19 #[.slice q bs.length c, .slice pb bs.length cap] w fun e w' => e = .returned (.bool true) ∧ Gro none w w') := fun h w q c k hq => (sameBytes_any q pb c cap bs bs w hq (hl.gro k (by simp)) (by omega)).mono fun e w' ⟨he, hg⟩ => ⟨by rw [he, decide_eq_true rfl], hg⟩
  have HKA : Hid (ka ≠ 0 → ∃ a, errV A ka = .iface 89 (.pointer (some a))) := fun h => errV_pos A h
  have HKD : Hid (kd ≠ 0 → ∃ a, errV A kd = .iface 89 (.pointer (some a))) := fun h => errV_pos A h
  have HZA : Hid (ka = 0 → errV A ka = .nilIface) := fun h => by rw [h]; rfl
  have HZD : Hid (kd = 0 → errV A kd = .nilIface) := fun h => by rw [h]; rfl
  clear hs hta hfr hsa hda hdf hds hcap hl hb hka hkd hra hrd hA1 hA2 hA3 hD1 hD2 hD3 HA1 HD1 HS4
  generalize errV A ka = va at *
  generalize errV A kd = vd at *
  generalize errV A 5 = v5 at *
  generalize hn : bs.length = n at *
  obtain ⟨t0, t1, t2, t3, t4, t5⟩ := ta
  obtain ⟨f0, f1, f2, f3, f4, f5⟩ := fr
  obtain ⟨b0, b1, b2, b3, b4, b5⟩ := sa
  obtain ⟨g0, g1, g2, g3, g4, g5⟩ := da
  obtain ⟨h0, h1, h2, h3, h4, h5⟩ := df
  obtain ⟨i0, i1, i2, i3, i4, i5⟩ := ds
  obtain ⟨x0, x1, x2, x3, x4, x5⟩ := xa
  obtain ⟨y0, y1, y2, y3, y4, y5⟩ := xf
  obtain ⟨z0, z1, z2, z3, z4, z5⟩ := xs
  obtain ⟨k0, k1, k2, k3, k4, k5⟩ := ya
  obtain ⟨l0, l1, l2, l3, l4, l5⟩ := yf
  obtain ⟨m0, m1, m2, m3, m4, m5⟩ := ys
  unfold addV delV adZ at *
  simp only at *
  have HN := Lib.hid hn
  clear hn
  go_enter Tryd.func6, Tryd.ntmps6
  go_wp2_with fail
  have hgb : Gro none W ((W.alloc (.cells #[.int .u8 t0, .int .u8 t1, .int .u8 t2, .int .u8 t3, .int .u8 t4, .int .u8 t5, .int .u8 f0, .int .u8 f1, .int .u8 f2, .int .u8 f3, .int .u8 f4, .int .u8 f5, .int .u8 b0, .int .u8 b1, .int .u8 b2, .int .u8 b3, .int .u8 b4, .int .u8 b5, .bool ans, .int .i64 tok, .int .i64 tid, .int .i64 size, .int .i64 tmo, .int .i64 seq, .int .i64 st] 27)).alloc (.cells #[.int .u8 g0, .int .u8 g1, .int .u8 g2, .int .u8 g3, .int .u8 g4, .int .u8 g5, .int .u8 h0, .int .u8 h1, .int .u8 h2, .int .u8 h3, .int .u8 h4, .int .u8 h5, .int .u8 i0, .int .u8 i1, .int .u8 i2, .int .u8 i3, .int .u8 i4, .int .u8 i5, .bool mine, .int .i64 dti, .int .i64 dre] 36)) := ((Gro.refl _ _).alloc _).alloc _
  have hbx : ((W.alloc (.cells #[.int .u8 t0, .int .u8 t1, .int .u8 t2, .int .u8 t3, .int .u8 t4, .int .u8 t5, .int .u8 f0, .int .u8 f1, .int .u8 f2, .int .u8 f3, .int .u8 f4, .int .u8 f5, .int .u8 b0, .int .u8 b1, .int .u8 b2, .int .u8 b3, .int .u8 b4, .int .u8 b5, .bool ans, .int .i64 tok, .int .i64 tid, .int .i64 size, .int .i64 tmo, .int .i64 seq, .int .i64 st] 27)).alloc (.cells #[.int .u8 g0, .int .u8 g1, .int .u8 g2, .int .u8 g3, .int .u8 g4, .int .u8 g5, .int .u8 h0, .int .u8 h1, .int .u8 h2, .int .u8 h3, .int .u8 h4, .int .u8 h5, .int .u8 i0, .int .u8 i1, .int .u8 i2, .int .u8 i3, .int .u8 i4, .int .u8 i5, .bool mine, .int .i64 dti, .int .i64 dre] 36)).heap[W.heap.size]? = some (.cells #[.int .u8 t0, .int .u8 t1, .int .u8 t2, .int .u8 t3, .int .u8 t4, .int .u8 t5, .int .u8 f0, .int .u8 f1, .int .u8 f2, .int .u8 f3, .int .u8 f4, .int .u8 f5, .int .u8 b0, .int .u8 b1, .int .u8 b2, .int .u8 b3, .int .u8 b4, .int .u8 b5, .bool ans, .int .i64 tok, .int .i64 tid, .int .i64 size, .int .i64 tmo, .int .i64 seq, .int .i64 st] 27 (0, 0)) := (Below.heap_alloc _ _ _ (by simp)).trans (heap_alloc_new W _)
  have hby : ((W.alloc (.cells #[.int .u8 t0, .int .u8 t1, .int .u8 t2, .int .u8 t3, .int .u8 t4, .int .u8 t5, .int .u8 f0, .int .u8 f1, .int .u8 f2, .int .u8 f3, .int .u8 f4, .int .u8 f5, .int .u8 b0, .int .u8 b1, .int .u8 b2, .int .u8 b3, .int .u8 b4, .int .u8 b5, .bool ans, .int .i64 tok, .int .i64 tid, .int .i64 size, .int .i64 tmo, .int .i64 seq, .int .i64 st] 27)).alloc (.cells #[.int .u8 g0, .int .u8 g1, .int .u8 g2, .int .u8 g3, .int .u8 g4, .int .u8 g5, .int .u8 h0, .int .u8 h1, .int .u8 h2, .int .u8 h3, .int .u8 h4, .int .u8 h5, .int .u8 i0, .int .u8 i1, .int .u8 i2, .int .u8 i3, .int .u8 i4, .int .u8 i5, .bool mine, .int .i64 dti, .int .i64 dre] 36)).heap[W.heap.size + 1]? = some (.cells #[.int .u8 g0, .int .u8 g1, .int .u8 g2, .int .u8 g3, .int .u8 g4, .int .u8 g5, .int .u8 h0, .int .u8 h1, .int .u8 h2, .int .u8 h3, .int .u8 h4, .int .u8 h5, .int .u8 i0, .int .u8 i1, .int .u8 i2, .int .u8 i3, .int .u8 i4, .int .u8 i5, .bool mine, .int .i64 dti, .int .i64 dre] 36 (0, 0)) := by
    have h := heap_alloc_new (W.alloc (.cells #[.int .u8 t0, .int .u8 t1, .int .u8 t2, .int .u8 t3, .int .u8 t4, .int .u8 t5, .int .u8 f0, .int .u8 f1, .int .u8 f2, .int .u8 f3, .int .u8 f4, .int .u8 f5, .int .u8 b0, .int .u8 b1, .int .u8 b2, .int .u8 b3, .int .u8 b4, .int .u8 b5, .bool ans, .int .i64 tok, .int .i64 tid, .int .i64 size, .int .i64 tmo, .int .i64 seq, .int .i64 st] 27)) (.cells #[.int .u8 g0, .int .u8 g1, .int .u8 g2, .int .u8 g3, .int .u8 g4, .int .u8 g5, .int .u8 h0, .int .u8 h1, .int .u8 h2, .int .u8 h3, .int .u8 h4, .int .u8 h5, .int .u8 i0, .int .u8 i1, .int .u8 i2, .int .u8 i3, .int .u8 i4, .int .u8 i5, .bool mine, .int .i64 dti, .int .i64 dre] 36)
    simp only [show ∀ (w : World) (o : Obj), (w.alloc o).heap.size = w.heap.size + 1 from fun w o => by simp] at h
    exact h
  generalize (W.alloc (.cells #[.int .u8 t0, .int .u8 t1, .int .u8 t2, .int .u8 t3, .int .u8 t4, .int .u8 t5, .int .u8 f0, .int .u8 f1, .int .u8 f2, .int .u8 f3, .int .u8 f4, .int .u8 f5, .int .u8 b0, .int .u8 b1, .int .u8 b2, .int .u8 b3, .int .u8 b4, .int .u8 b5, .bool ans, .int .i64 tok, .int .i64 tid, .int .i64 size, .int .i64 tmo, .int .i64 seq, .int .i64 st] 27)).alloc (.cells #[.int .u8 g0, .int .u8 g1, .int .u8 g2, .int .u8 g3, .int .u8 g4, .int .u8 g5, .int .u8 h0, .int .u8 h1, .int .u8 h2, .int .u8 h3, .int .u8 h4, .int .u8 h5, .int .u8 i0, .int .u8 i1, .int .u8 i2, .int .u8 i3, .int .u8 i4, .int .u8 i5, .bool mine, .int .i64 dti, .int .i64 dre] 36) = wb at *
  have HBX := Lib.hid (fun w' (k : Gro none wb w') => (k.block W.heap.size (blk_lt hbx) (by simp)).trans hbx)
  have HBY := Lib.hid (fun w' (k : Gro none wb w') => (k.block (W.heap.size + 1) (blk_lt hby) (by simp)).trans hby)
  have HG := Lib.hid hgb
  clear hgb hbx hby
  refine (first5_any wb).mono ?_
  rintro e w1 ⟨rfl, hg1⟩
  have HW := Lib.hid hg1
  clear hg1
  by_cases h60 : n ≤ 60
  · have i60 : (n : Int) ≤ 60 := by omega
    have HSB := Lib.hid (HSB.out h60)
    clear h60
    skip
    as_aux_lemma =>
      go_wp2_with fail
      refine (HRA.out _ (HG.out.trans HW.out)).mono ?_
      rintro e p1 ⟨rfl, hg⟩
      have HW := Lib.hid (HW.out.trans hg)
      clear hg
      go_wp2_with (refine alloc_row rfl 27 rfl 8 rfl #[.int .u8 0, .int .u8 0, .int .u8 0, .int .u8 0, .int .u8 0, .int .u8 0, .int .u8 0, .int .u8 0, .int .u8 0, .int .u8 0, .int .u8 0, .int .u8 0, .int .u8 0, .int .u8 0, .int .u8 0, .int .u8 0, .int .u8 0, .int .u8 0, .bool false, .int .i64 0, .int .i64 0, .int .i64 0, .int .i64 0, .int .i64 0, .int .i64 0] 27 add_run rfl (.tmp 38) rfl (by first | (simp; done) | (simp [Act.put]; done)) #[.int .u8 x0, .int .u8 x1, .int .u8 x2, .int .u8 x3, .int .u8 x4, .int .u8 x5, .int .u8 y0, .int .u8 y1, .int .u8 y2, .int .u8 y3, .int .u8 y4, .int .u8 y5, .int .u8 z0, .int .u8 z1, .int .u8 z2, .int .u8 z3, .int .u8 z4, .int .u8 z5, .bool can, .int .i64 ck, .int .i64 ci, .int .i64 cz, .int .i64 cm, .int .i64 cq, .int .i64 ct] (by rfl) rfl (by kernel_rfl) (by simp [Value.oneCell']) ?_)
      intro p2 hg hr
      have HW := Lib.hid (HW.out.trans hg)
      have HR := Lib.hid hr
      clear hg hr HRA
      go_upto_region 7 with fail
      go_cut [41] from 40 (fun v w => v = .bool (decide (ka = 0)) ∧ p2 = w)
      case first =>
        by_cases hk : ka = 0
        · obtain rfl := HZA.out hk
          go_wp2_with fail
          go_meet
          case rel => exact ⟨by rw [decide_eq_true hk], rfl⟩
        · obtain ⟨a, rfl⟩ := HKA.out hk
          go_wp2_with fail
          go_meet
          case rel => exact ⟨by rw [decide_eq_false hk], rfl⟩
      case rest =>
      obtain ⟨rfl, rfl⟩ := hcut
      generalize hd : decide (ka = 0) = d
      have HD := Lib.hid hd
      clear hd
      go_upto_if 41 with fail
      go_cut [] from 42 (fun w => Gro none wb w)
      case first =>
        cases d with
        | true => as_aux_lemma =>
          have hk : ka = 0 := of_decide_eq_true HD.out
          have hr := HR.out
          go_wp2_with (refine load_row rfl _ _ rfl _ rfl _ _ hr _ Tryd.underlying27 rfl (by kernel_rfl) ?_)
          refine (HWA.out hk _).mono ?_
          rintro e p3 ⟨q, c, rfl, hg, ho⟩
          rw [HN.out]
          obtain ⟨q', c', e', -, hli, -⟩ := ho.lie
          injection e' with e1 e2 e3
          subst e1
          have HLI := Lib.hid hli
          have HW := Lib.hid (HW.out.trans hg)
          clear hg ho hk hr HR HD e2 e3 hli
          go_wp2_with fail
          refine (HSB.out _ _ _ (HG.out.trans HW.out) HLI.out).mono ?_
          rintro e p4 ⟨rfl, hg⟩
          have HW := Lib.hid (HW.out.trans hg)
          clear hg
          go_wp2_with fail
          go_meet
          case rel => exact HW.out
        | false =>
          go_wp2_with fail
          go_meet
          case rel => exact HW.out
      case rest =>
      clear HW HR HD
      have HW := Lib.hid hcut
      clear hcut
      obtain ⟨q0, rfl⟩ : ∃ v, v = wc := ⟨_, rfl⟩
      go_wp2_with fail
      refine (HRD.out _ (HG.out.trans HW.out)).mono ?_
      rintro e q1 ⟨rfl, hg⟩
      have HW := Lib.hid (HW.out.trans hg)
      clear hg
      go_wp2_with (refine alloc_row rfl 36 rfl 12 rfl #[.int .u8 0, .int .u8 0, .int .u8 0, .int .u8 0, .int .u8 0, .int .u8 0, .int .u8 0, .int .u8 0, .int .u8 0, .int .u8 0, .int .u8 0, .int .u8 0, .int .u8 0, .int .u8 0, .int .u8 0, .int .u8 0, .int .u8 0, .int .u8 0, .bool false, .int .i64 0, .int .i64 0] 36 del_run rfl (.tmp 58) rfl (by first | (simp; done) | (simp [Act.put]; done)) #[.int .u8 k0, .int .u8 k1, .int .u8 k2, .int .u8 k3, .int .u8 k4, .int .u8 k5, .int .u8 l0, .int .u8 l1, .int .u8 l2, .int .u8 l3, .int .u8 l4, .int .u8 l5, .int .u8 m0, .int .u8 m1, .int .u8 m2, .int .u8 m3, .int .u8 m4, .int .u8 m5, .bool em, .int .i64 et, .int .i64 er] (by rfl) rfl (by kernel_rfl) (by simp [Value.oneCell']) ?_)
      intro q2 hg hr
      have HW := Lib.hid (HW.out.trans hg)
      have HR := Lib.hid hr
      clear hg hr HRD
      go_upto_region 12 with fail
      go_cut [61] from 60 (fun v w => v = .bool (decide (kd = 0)) ∧ q2 = w)
      case first =>
        by_cases hk : kd = 0
        · obtain rfl := HZD.out hk
          go_wp2_with fail
          go_meet
          case rel => exact ⟨by rw [decide_eq_true hk], rfl⟩
        · obtain ⟨a, rfl⟩ := HKD.out hk
          go_wp2_with fail
          go_meet
          case rel => exact ⟨by rw [decide_eq_false hk], rfl⟩
      case rest =>
      obtain ⟨rfl, rfl⟩ := hcut
      generalize hd : decide (kd = 0) = d
      have HD := Lib.hid hd
      clear hd
      go_upto_if 61 with fail
      go_cut [] from 62 (fun w => Gro none wb w)
      case first =>
        cases d with
        | true => as_aux_lemma =>
          have hk : kd = 0 := of_decide_eq_true HD.out
          have hr := HR.out
          go_wp2_with (refine load_row rfl _ _ rfl _ rfl _ _ hr _ Tryd.underlying36 rfl (by kernel_rfl) ?_)
          refine (HWD.out hk _).mono ?_
          rintro e q3 ⟨q, c, rfl, hg, ho⟩
          rw [HN.out]
          obtain ⟨q', c', e', -, hli, -⟩ := ho.lie
          injection e' with e1 e2 e3
          subst e1
          have HLI := Lib.hid hli
          have HW := Lib.hid (HW.out.trans hg)
          clear hg ho hk hr HR HD e2 e3 hli
          go_wp2_with fail
          refine (HSB.out _ _ _ (HG.out.trans HW.out) HLI.out).mono ?_
          rintro e q4 ⟨rfl, hg⟩
          have HW := Lib.hid (HW.out.trans hg)
          clear hg
          go_wp2_with fail
          go_meet
          case rel => exact HW.out
        | false =>
          go_wp2_with fail
          go_meet
          case rel => exact HW.out
      case rest =>
      clear HW HR HD
      have HW := Lib.hid hcut
      clear hcut
      obtain ⟨r0, rfl⟩ : ∃ v, v = wc := ⟨_, rfl⟩
      have hr := HBX.out _ HW.out
      go_wp2_with (refine load_row rfl _ _ rfl _ rfl _ _ hr _ Tryd.underlying27 rfl (by kernel_rfl) ?_)
      clear hr
      refine (HA3.out _ (HG.out.trans HW.out)).mono ?_
      rintro e s1 ⟨q, c, rfl, hg, ho⟩
      obtain ⟨q', c', e', hcp, hli, -⟩ := ho.lie
      injection e' with e1 e2 e3
      subst e1 e3
      have HLI := Lib.hid (fun w' (k : Gro none s1 w') => hli.gro k (by simp))
      have HW := Lib.hid (HW.out.trans hg)
      generalize hx : X1.length = nx at *
      have HX := Lib.hid hx
      have HCP := Lib.hid hcp
      clear hg ho e2 hli HA3 hx hcp
      go_upto_region 17 with fail
      go_cut [81] from 80 (fun v w => v = .bool dA ∧ s1 = w)
      case first =>
        cases dA with
        | true =>
          obtain rfl := (HBA.out rfl).2.1
          go_wp2_with fail
          go_meet
          case rel => exact ⟨rfl, rfl⟩
        | false =>
          obtain ⟨a, rfl⟩ := HA2.out rfl
          go_wp2_with fail
          go_meet
          case rel => exact ⟨rfl, rfl⟩
      case rest =>
      obtain ⟨rfl, rfl⟩ := hcut
      go_upto_if 81 with fail
      go_cut [] from 82 (fun w => Gro none wb w)
      case first =>
        cases dA with
        | true => as_aux_lemma =>
          obtain ⟨hlen, -, hback⟩ := HBA.out rfl
          obtain rfl : nx = 33 := hlen
          have HBK := Lib.hid (fun w k => hback q c HCP.out w (HG.out.trans (HW.out.trans k)) (HLI.out w k))
          have HR1 := Lib.hid (fun w (k : Gro none s1 w) => (HBK.out w k).1)
          have HR2 := Lib.hid (fun w (k : Gro none s1 w) => (HBK.out w k).2)
          clear hback HBK HX HCP HLI HBA HA2
          go_wp2_with fail
          refine (HR1.out _ (Gro.refl _ _)).mono ?_
          rintro e s2 ⟨rfl, hg⟩
          have HV := Lib.hid hg
          clear hg HR1
          go_wp2_with (refine alloc_row rfl 27 rfl 18 rfl #[.int .u8 0, .int .u8 0, .int .u8 0, .int .u8 0, .int .u8 0, .int .u8 0, .int .u8 0, .int .u8 0, .int .u8 0, .int .u8 0, .int .u8 0, .int .u8 0, .int .u8 0, .int .u8 0, .int .u8 0, .int .u8 0, .int .u8 0, .int .u8 0, .bool false, .int .i64 0, .int .i64 0, .int .i64 0, .int .i64 0, .int .i64 0, .int .i64 0] 27 add_run rfl (.tmp 85) rfl (by first | (simp; done) | (simp [Act.put]; done)) #[.int .u8 t0, .int .u8 t1, .int .u8 t2, .int .u8 t3, .int .u8 t4, .int .u8 t5, .int .u8 f0, .int .u8 f1, .int .u8 f2, .int .u8 f3, .int .u8 f4, .int .u8 f5, .int .u8 b0, .int .u8 b1, .int .u8 b2, .int .u8 b3, .int .u8 b4, .int .u8 b5, .bool ans, .int .i64 tok, .int .i64 tid, .int .i64 size, .int .i64 tmo, .int .i64 seq, .int .i64 st] (by rfl) rfl (by kernel_rfl) (by simp [Value.oneCell']) ?_)
          intro s3 hg hr
          have HV := Lib.hid (HV.out.trans hg)
          have HROW := Lib.hid hr
          clear hg hr
          go_wp2_with fail
          refine (HR2.out _ HV.out).mono ?_
          rintro e s4 ⟨rfl, hg⟩
          have HV := Lib.hid (HV.out.trans hg)
          have HROW := Lib.hid ((hg.block _ (blk_lt HROW.out) (by simp)).trans HROW.out)
          clear hg HR2
          go_wp2_with (refine alloc_row rfl 36 rfl 20 rfl #[.int .u8 0, .int .u8 0, .int .u8 0, .int .u8 0, .int .u8 0, .int .u8 0, .int .u8 0, .int .u8 0, .int .u8 0, .int .u8 0, .int .u8 0, .int .u8 0, .int .u8 0, .int .u8 0, .int .u8 0, .int .u8 0, .int .u8 0, .int .u8 0, .bool false, .int .i64 0, .int .i64 0] 36 del_run rfl (.tmp 90) rfl (by first | (simp; done) | (simp [Act.put]; done)) #[.int .u8 0, .int .u8 0, .int .u8 0, .int .u8 0, .int .u8 0, .int .u8 0, .int .u8 0, .int .u8 0, .int .u8 0, .int .u8 0, .int .u8 0, .int .u8 0, .int .u8 0, .int .u8 0, .int .u8 0, .int .u8 0, .int .u8 0, .int .u8 0, .bool false, .int .i64 0, .int .i64 0] (by rfl) rfl (by kernel_rfl) (by simp [Value.oneCell']) ?_)
          intro s5 hg _
          have HV := Lib.hid (HV.out.trans hg)
          have hr1 := (hg.block _ (blk_lt HROW.out) (by simp)).trans HROW.out
          have hr2 := HBX.out _ (HW.out.trans HV.out)
          clear hg HROW
          go_wp2_with (first | (refine load_row_g (by rfl) _ _ rfl _ rfl _ _ hr1 _ Tryd.underlying27 rfl (by kernel_rfl) ?_) | (refine load_row_g (by rfl) _ _ rfl _ rfl _ _ hr2 _ Tryd.underlying27 rfl (by kernel_rfl) ?_))
          clear hr1 hr2
          (try go_wp2_with fail)
          refine (HSA.out _).mono ?_
          rintro e s6 ⟨rfl, hg⟩
          have HV := Lib.hid (HV.out.trans hg)
          clear hg
          go_wp2_with fail
          refine (HI5.out _ (HG.out.trans (HW.out.trans HV.out))).mono ?_
          rintro e s7 ⟨rfl, hg⟩
          have HV := Lib.hid (HV.out.trans hg)
          clear hg
          go_wp2_with fail
          go_meet
          case rel => exact HW.out.trans HV.out
        | false =>
          go_wp2_with fail
          go_meet
          case rel => exact HW.out
      case rest =>
      clear HW HX HCP HLI
      have HW := Lib.hid hcut
      clear hcut
      obtain ⟨s0, rfl⟩ : ∃ v, v = wc := ⟨_, rfl⟩
      have hr := HBY.out _ HW.out
      go_wp2_with (refine load_row rfl _ _ rfl _ rfl _ _ hr _ Tryd.underlying36 rfl (by kernel_rfl) ?_)
      clear hr
      refine (HD3.out _ (HG.out.trans HW.out)).mono ?_
      rintro e v1 ⟨q, c, rfl, hg, ho⟩
      obtain ⟨q', c', e', hcp, hli, -⟩ := ho.lie
      injection e' with e1 e2 e3
      subst e1 e3
      have HLI := Lib.hid (fun w' (k : Gro none v1 w') => hli.gro k (by simp))
      have HW := Lib.hid (HW.out.trans hg)
      generalize hx : X2.length = nx at *
      have HX := Lib.hid hx
      have HCP := Lib.hid hcp
      clear hg ho e2 hli HD3 hx hcp
      go_upto_region 23 with fail
      go_cut [116] from 115 (fun v w => v = .bool dD ∧ v1 = w)
      case first =>
        cases dD with
        | true =>
          obtain rfl := (HBD.out rfl).2.1
          go_wp2_with fail
          go_meet
          case rel => exact ⟨rfl, rfl⟩
        | false =>
          obtain ⟨a, rfl⟩ := HD2.out rfl
          go_wp2_with fail
          go_meet
          case rel => exact ⟨rfl, rfl⟩
      case rest =>
      obtain ⟨rfl, rfl⟩ := hcut
      go_upto_if 116 with fail
      go_cut [] from 117 (fun w => Gro none wb w)
      case first =>
        cases dD with
        | true => as_aux_lemma =>
          obtain ⟨hlen, -, hback⟩ := HBD.out rfl
          obtain rfl : nx = 30 := hlen
          have HBK := Lib.hid (fun w k => hback q c HCP.out w (HG.out.trans (HW.out.trans k)) (HLI.out w k))
          have HR1 := Lib.hid (fun w (k : Gro none v1 w) => (HBK.out w k).1)
          have HR2 := Lib.hid (fun w (k : Gro none v1 w) => (HBK.out w k).2)
          clear hback HBK HX HCP HLI HBD HD2
          go_wp2_with fail
          refine (HR1.out _ (Gro.refl _ _)).mono ?_
          rintro e v2 ⟨rfl, hg⟩
          have HV := Lib.hid hg
          clear hg HR1
          go_wp2_with (refine alloc_row rfl 36 rfl 24 rfl #[.int .u8 0, .int .u8 0, .int .u8 0, .int .u8 0, .int .u8 0, .int .u8 0, .int .u8 0, .int .u8 0, .int .u8 0, .int .u8 0, .int .u8 0, .int .u8 0, .int .u8 0, .int .u8 0, .int .u8 0, .int .u8 0, .int .u8 0, .int .u8 0, .bool false, .int .i64 0, .int .i64 0] 36 del_run rfl (.tmp 120) rfl (by first | (simp; done) | (simp [Act.put]; done)) #[.int .u8 g0, .int .u8 g1, .int .u8 g2, .int .u8 g3, .int .u8 g4, .int .u8 g5, .int .u8 h0, .int .u8 h1, .int .u8 h2, .int .u8 h3, .int .u8 h4, .int .u8 h5, .int .u8 i0, .int .u8 i1, .int .u8 i2, .int .u8 i3, .int .u8 i4, .int .u8 i5, .bool mine, .int .i64 dti, .int .i64 dre] (by rfl) rfl (by kernel_rfl) (by simp [Value.oneCell']) ?_)
          intro v3 hg hr
          have HV := Lib.hid (HV.out.trans hg)
          have HROW := Lib.hid hr
          clear hg hr
          go_wp2_with fail
          refine (HR2.out _ HV.out).mono ?_
          rintro e v4 ⟨rfl, hg⟩
          have HV := Lib.hid (HV.out.trans hg)
          have HROW := Lib.hid ((hg.block _ (blk_lt HROW.out) (by simp)).trans HROW.out)
          clear hg HR2
          go_wp2_with (refine alloc_row rfl 27 rfl 26 rfl #[.int .u8 0, .int .u8 0, .int .u8 0, .int .u8 0, .int .u8 0, .int .u8 0, .int .u8 0, .int .u8 0, .int .u8 0, .int .u8 0, .int .u8 0, .int .u8 0, .int .u8 0, .int .u8 0, .int .u8 0, .int .u8 0, .int .u8 0, .int .u8 0, .bool false, .int .i64 0, .int .i64 0, .int .i64 0, .int .i64 0, .int .i64 0, .int .i64 0] 27 add_run rfl (.tmp 125) rfl (by first | (simp; done) | (simp [Act.put]; done)) #[.int .u8 0, .int .u8 0, .int .u8 0, .int .u8 0, .int .u8 0, .int .u8 0, .int .u8 0, .int .u8 0, .int .u8 0, .int .u8 0, .int .u8 0, .int .u8 0, .int .u8 0, .int .u8 0, .int .u8 0, .int .u8 0, .int .u8 0, .int .u8 0, .bool false, .int .i64 0, .int .i64 0, .int .i64 0, .int .i64 0, .int .i64 0, .int .i64 0] (by rfl) rfl (by kernel_rfl) (by simp [Value.oneCell']) ?_)
          intro v5 hg _
          have HV := Lib.hid (HV.out.trans hg)
          have hr1 := (hg.block _ (blk_lt HROW.out) (by simp)).trans HROW.out
          have hr2 := HBY.out _ (HW.out.trans HV.out)
          clear hg HROW
          go_wp2_with (first | (refine load_row_g (by rfl) _ _ rfl _ rfl _ _ hr1 _ Tryd.underlying36 rfl (by kernel_rfl) ?_) | (refine load_row_g (by rfl) _ _ rfl _ rfl _ _ hr2 _ Tryd.underlying36 rfl (by kernel_rfl) ?_))
          clear hr1 hr2
          (try go_wp2_with fail)
          refine (HSD.out _).mono ?_
          rintro e v6 ⟨rfl, hg⟩
          have HV := Lib.hid (HV.out.trans hg)
          clear hg
          go_wp2_with fail
          refine (HI5.out _ (HG.out.trans (HW.out.trans HV.out))).mono ?_
          rintro e v7 ⟨rfl, hg⟩
          have HV := Lib.hid (HV.out.trans hg)
          clear hg
          go_wp2_with fail
          go_meet
          case rel => exact HW.out.trans HV.out
        | false =>
          go_wp2_with fail
          go_meet
          case rel => exact HW.out
      case rest =>
      clear HW HX HCP HLI
      have HW := Lib.hid hcut
      clear hcut
      obtain ⟨v0, rfl⟩ : ∃ v, v = wc := ⟨_, rfl⟩
      go_wp2_with fail
      go_ret
      exact ⟨rfl, (Far.refl _ _).gro (HG.out.trans HW.out) (Nat.le_refl _) (fun _ e => by cases e)⟩
  · have i60 : 60 < (n : Int) := by omega
    go_wp2_with fail
    go_ret
    exact ⟨rfl, (Far.refl _ _).gro (HG.out.trans HW.out) (Nat.le_refl _) (fun _ e => by cases e)⟩
end Go.Proofs.YtflckkeaakmojaaDoor
