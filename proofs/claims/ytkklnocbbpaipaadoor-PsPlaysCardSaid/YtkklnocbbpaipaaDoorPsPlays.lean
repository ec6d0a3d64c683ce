/-
  WHATEVER IS TOLD OF SLEEP: the code's power and the document's answer the same (muezzinlaw21.PsPlays). Conditions: the things that are told lie where the slice says; the sentinels lie.
-/
import Derived.Test.YtkklnocbbpaipaaDoorPsBoth
import Derived.Test.YtkklnocbbpaipaaDoorCalm3S
import Derived.Test.YtkklnocbbpaipaaDoorFrame
import Derived.Deep.CutRange
import Derived.Deep.CutBlock
namespace Go.Proofs.YtkklnocbbpaipaaDoor
open Go.RowKit

/-- Something that is told. -/
structure Tell where
  kd : Int
  ka : Int
  kn : Int
  on : Bool
  u0 : Bool
  u1 : Bool
  u2 : Bool
  u3 : Bool
def tellR (t : Tell) : List Value := [.int .i64 t.kd, .int .i64 t.ka, .int .i64 t.kn, .bool t.on, .bool t.u0, .bool t.u1, .bool t.u2, .bool t.u3]
/-- Nothing but two blocks has turned. -/
structure Two (b1 b2 : Nat) (w w' : World) : Prop where
  os : w'.os = w.os
  output : w'.output = w.output
  size : w.heap.size ≤ w'.heap.size
  block : ∀ k, k < w.heap.size → k ≠ b1 → k ≠ b2 → w'.heap[k]? = w.heap[k]?
theorem Two.refl (b1 b2 : Nat) (w : World) : Two b1 b2 w w := ⟨rfl, rfl, Nat.le_refl _, fun _ _ _ _ => rfl⟩
theorem Two.gro {b1 b2 : Nat} {a b c : World} (row : Option Nat) (h : Two b1 b2 a b) (k : Gro row b c) (hr : ∀ g, row = some g → g = b1 ∨ g = b2) : Two b1 b2 a c :=
  ⟨k.os.trans h.os, k.output.trans h.output, Nat.le_trans h.size k.size, fun i hi h1 h2 => (k.block i (Nat.lt_of_lt_of_le hi h.size) (fun e => by rcases hr i e.symm with e | e <;> omega)).trans (h.block i hi h1 h2)⟩
theorem Two.none {b1 b2 : Nat} {a b c : World} (h : Two b1 b2 a b) (k : Gro none b c) : Two b1 b2 a c := h.gro _ k (fun _ e => by cases e)
theorem Two.one {b1 b2 : Nat} {a b c : World} (h : Two b1 b2 a b) (k : Gro (some b1) b c) : Two b1 b2 a c := h.gro _ k (fun _ e => by injection e with e; exact .inl e.symm)
theorem Two.two {b1 b2 : Nat} {a b c : World} (h : Two b1 b2 a b) (k : Gro (some b2) b c) : Two b1 b2 a c := h.gro _ k (fun _ e => by injection e with e; exact .inr e.symm)
theorem Two.far {S b1 b2 : Nat} {w1 a b : World} (h : Two b1 b2 a b) (k : Far S w1 a) (h1 : S ≤ b1) (h2 : S ≤ b2) (hS : S ≤ a.heap.size) : Far S w1 b :=
  ⟨h.os.trans k.os, h.output.trans k.output, Nat.le_trans k.size h.size, fun i hi => (h.block i (by omega) (by omega) (by omega)).trans (k.block i hi)⟩
theorem Two.pow {b1 b2 b : Nat} {a w : World} {P : Nat → One} (h : Two b1 b2 a w) (hp : Pow b a P) (h1 : b ≠ b1) (h2 : b ≠ b2) : Pow b w P := by
  have hlt := hp.lt
  obtain ⟨C, hb, hC⟩ := hp
  exact ⟨C, (h.block b hlt h1 h2).trans hb, hC⟩
/-- What stays true from one thing to the next. -/
structure PJ (W1 : World) (S bt bx : Nat) (P D : Nat → One) (w : World) : Prop where
  far : Far S W1 w
  p : Pow bt w P
  d : DPow bx w D
  eq : EqP P D
theorem PJ.gro {W1 w w' : World} {S bt bx : Nat} {P D : Nat → One} (h : PJ W1 S bt bx P D w) (k : Gro none w w') (hS : S ≤ W1.heap.size) : PJ W1 S bt bx P D w' :=
  ⟨h.far.gro k (Nat.le_trans hS h.far.size) (fun _ e => by cases e), h.p.gro k (by simp), h.d.gro k (by simp), h.eq⟩
theorem Far.trans {B : Nat} {a b c : World} (h : Far B a b) (k : Far B b c) : Far B a c := ⟨k.os.trans h.os, k.output.trans h.output, Nat.le_trans h.size k.size, fun i hi => (k.block i hi).trans (h.block i hi)⟩
theorem Far.low {B B' : Nat} {a b : World} (h : Far B a b) (hB : B' ≤ B) : Far B' a b := ⟨h.os, h.output, h.size, fun i hi => h.block i (by omega)⟩
/-- Within a region that tells both: what has come up so far (i1, i2: where the two calls stand). -/
def RP (w0 : World) (bt bx i1 i2 : Nat) (P P' D D' : Nat → One) (l : Array Bool) (w : World) : Prop :=
  Two bt bx w0 w ∧ Pow bt w (cond (l.getD i1 false) P' P) ∧ DPow bx w (cond (l.getD i2 false) D' D)
section
variable {w0 w : World} {bt bx i1 i2 : Nat} {P P' D D' : Nat → One} {l : Array Bool}
theorem RP.un (b1 b2 : Bool) (e1 : l.getD i1 false = b1) (e2 : l.getD i2 false = b2) (h : RP w0 bt bx i1 i2 P P' D D' l w) : Two bt bx w0 w ∧ Pow bt w (cond b1 P' P) ∧ DPow bx w (cond b2 D' D) := by
  unfold RP at h
  rwa [e1, e2] at h
theorem RP.mk (b1 b2 : Bool) (e1 : l.getD i1 false = b1) (e2 : l.getD i2 false = b2) (h : Two bt bx w0 w ∧ Pow bt w (cond b1 P' P) ∧ DPow bx w (cond b2 D' D)) : RP w0 bt bx i1 i2 P P' D D' l w := by
  unfold RP
  rwa [e1, e2]
theorem RP.on {i : Nat} (h1 : i ≠ i1) (h2 : i ≠ i2) (l : Array Bool) (w : World) : RP w0 bt bx i1 i2 P P' D D' (l.setIfInBounds i true) w ↔ RP w0 bt bx i1 i2 P P' D D' l w := by
  unfold RP
  rw [getD_ne h1, getD_ne h2]
end
theorem sub_four {F : Array Value} {o : Nat} {a b c d : Value} (h0 : F[o]? = some a) (h1 : F[o + 1]? = some b) (h2 : F[o + 2]? = some c) (h3 : F[o + 3]? = some d) : ∀ j v, [a, b, c, d][j]? = some v → F[o + j]? = some v
  | 0, v, h => h0.trans h
  | 1, v, h => h1.trans h
  | 2, v, h => h2.trans h
  | 3, v, h => h3.trans h
theorem do_run (w : World) : (Instr.alloc 56 true (.tuple #[])).run Tryd.prog w = .ok (.pointer (some ⟨w.heap.size, 0, none⟩)) (w.alloc (.cells #[.int .i64 0, .int .i64 0, .int .i64 0, .bool false, .bool false, .bool false, .bool false, .bool false] 56)) := by go_simp
section
variable {P : Program} {ops : Array Oper} {Q : Exit → Act → World → Prop} {md : Region.Mode} {R : Array Bool → World → Prop}
/-- A call by its contract, once it alone may come up, under whatever relation. -/
theorem takeK {i x ty : Nat} {op : Op} {pos : String} {after : Array Edge} {v : Value} {fuel : Nat} {listed : Array Bool} {a : Act} (f : Nat) (args : Array Value) (hi : ops[i]? = some ⟨some x, op, ty, pos, after, none⟩) (hr : Region.ready md ops listed = [i])
    (hy : ∀ w, (execOp a.eval ⟨some x, op, ty, pos, after, none⟩).run P w = .ok (.enter f args) w) (hc : ∀ w, R listed w → Calls P f args w fun e w' => e = .returned v ∧ R (listed.setIfInBounds i true) w')
    (h : wpAnyS P md ops Q (RW R) fuel (listed.setIfInBounds i true) (a.put (some x) v)) : wpAnyS P md ops Q (RW R) (fuel + 1) listed a :=
  takeO hi hr rfl fun w K hw hK => by
    unfold Oper.wp
    rw [hy w]
    simp only [Oper.upon]
    refine (hc w hw).mono fun e w' ⟨hd, hk⟩ => ?_
    rw [hd]
    exact hK _ _ ⟨hk, h⟩
end

set_option maxHeartbeats 20000000 in
set_option maxRecDepth 100000 in
theorem plays_any (A : Nat → Addr) (pa : Option Addr) (len cap : Nat) (L : Nat → Tell) (W : World) (hs : Sent W.heap.size W A) (hlen : len ≤ 9223372036854775807)
    (hc : ∀ k, k < len → ∃ lb off, pa = some ⟨lb, off, none⟩ ∧ W.rangeAt lb (off + k * 8) (tellR (L k))) :
    Calls Tryd.prog 6 #[.slice pa len cap] W fun e w' => e = .returned (.bool true) ∧ Far W.heap.size W w' := by
  have h13 : 14 ≤ W.heap.size := hs.big
  have HS := Lib.hid hs
  have HC := Lib.hid hc
  have hLi : (len : Int) ≤ 9223372036854775807 := by omega
  clear hs hc
  go_enter Tryd.func6, Tryd.ntmps6
  go_wp2_with fail
  refine (first_any _).mono ?_
  rintro e w1 ⟨rfl, hg1⟩
  have HF1 := Lib.hid ((Far.refl W.heap.size W).gro hg1 (Nat.le_refl _) (fun _ e => by cases e))
  have hsz1 : W.heap.size ≤ w1.heap.size := hg1.size
  clear hg1
  by_cases h100 : len ≤ 100
  case neg =>
    have h100' : (100 : Int) < (len : Int) := by omega
    go_wp2_with fail
    go_ret
    exact ⟨rfl, HF1.out⟩
  have i100 : (len : Int) ≤ 100 := by omega
  go_wp2_with (first
    | refine wpList_build_as rfl 29 rfl pZ (tbuild_run _) ?_
    | refine wpList_build_as rfl 54 rfl qZ (dbuild_run _) ?_
    | refine wpList_box_as rfl 29 _ rfl pZ rfl ?_
    | refine wpList_box_as rfl 54 _ rfl qZ rfl ?_)
  have hP : PJ w1 W.heap.size w1.heap.size (w1.heap.size + 1) (fun _ => One.zero) (fun _ => One.zero) ((w1.alloc (.cells pZ 29)).alloc (.cells qZ 54)) := by
    refine ⟨(Far.refl _ _).gro (((Gro.refl none w1).alloc _).alloc _) hsz1 (fun _ e => by cases e), (ppow_new w1).alloc _, ?_, fun j hj => EqO.zero⟩
    have h := dpow_new (w1.alloc (.cells pZ 29))
    simp only [show ∀ (w : World) (o : Obj), (w.alloc o).heap.size = w.heap.size + 1 from fun w o => by simp] at h
    exact h
  have HW := Lib.hid (fun w' (h : Far W.heap.size w1 w') => HF1.out.trans h)
  generalize (w1.alloc _).alloc _ = w3 at *
  obtain ⟨bt, hbt⟩ : ∃ bt, bt = w1.heap.size := ⟨_, rfl⟩
  rw [← hbt] at hP ⊢
  obtain ⟨S, hS⟩ : ∃ S, S = W.heap.size := ⟨_, rfl⟩
  rw [← hS] at hP HW
  have HSS := Lib.hid hS
  have hbtS : S ≤ bt := by omega
  have hbtw : S ≤ w1.heap.size := by omega
  clear hbt hS HF1 hsz1 h13
  go_loopw [6] (fun i wr => ∃ (k : Nat) (P D : Nat → One), k ≤ len ∧ i = .int .i64 k ∧ PJ w1 S bt (bt + 1) P D wr) (fun i _ => len - (intOf i).toNat)
  case atStart => exact ⟨0, _, _, Nat.zero_le _, rfl, hP⟩
  case round =>
    clear hP
    obtain ⟨k, P, D, hk, rfl, hP⟩ := hrel
    by_cases hlt : k < len
    case neg =>
      obtain rfl : k = len := by omega
      go_wp2_with fail
      go_ret
      exact ⟨rfl, HSS.out ▸ HW.out _ hP.far⟩
    obtain ⟨lb, off, rfl, hr⟩ := HC.out k hlt
    unfold tellR at hr
    generalize (L k).kd = kd at *
    generalize (L k).ka = ka at *
    generalize (L k).kn = kn at *
    generalize (L k).on = on at *
    generalize (L k).u0 = u0 at *
    generalize (L k).u1 = u1 at *
    generalize (L k).u2 = u2 at *
    generalize (L k).u3 = u3 at *
    have hlb : lb < W.heap.size := block_lt_of_cell (hr 0 _ rfl)
    have hrw : wr.rangeAt lb (off + k * 8) [.int .i64 kd, .int .i64 ka, .int .i64 kn, .bool on, .bool u0, .bool u1, .bool u2, .bool u3] := fun j v hv => ((HW.out _ hP.far).cell (p := ⟨lb, off + k * 8 + j, none⟩) (by rw [HSS.out]; exact hlb)).trans (hr j v hv)
    have hki : (k : Int) < (len : Int) := by omega
    have hk0 : (0 : Int) ≤ (k : Int) := by omega
    have HP := Lib.hid hP
    clear hP hr hlb
    go_wp2_with (first
      | refine wpList_load_mid rfl 56 _ rfl lb (off + k * 8) rfl _ _ hrw Tryd.underlying56 rfl (by kernel_rfl) ?_
      | refine alloc_row rfl 56 rfl 7 rfl #[.int .i64 0, .int .i64 0, .int .i64 0, .bool false, .bool false, .bool false, .bool false, .bool false] 56 do_run rfl (.tmp 36) rfl (by first | (simp; done) | (simp [Act.put]; done)) #[.int .i64 kd, .int .i64 ka, .int .i64 kn, .bool on, .bool u0, .bool u1, .bool u2, .bool u3] (by rfl) rfl (by kernel_rfl) (by simp [Value.oneCell']) ?_)
    intro w7 hg7 hr7
    have hbx1 : bt + 1 < wr.heap.size := HP.out.d.lt
    have HP7 := Lib.hid (HP.out.gro hg7 hbtw)
    have HR7 := Lib.hid hr7
    have hbd7 : wr.heap.size < w7.heap.size := blk_in hr7
    have HCL := Lib.hid (clone_any bt w7 P HP7.out.p)
    clear HP hrw hg7 hr7
    generalize wr.heap.size = bd at *
    go_wp2_with fail
    refine HCL.out.mono ?_
    rintro e w2 ⟨rfl, hg2, hTc, hbc⟩
    have hbc0 : bd < w7.heap.size := hbd7
    obtain ⟨r1, hr1, -⟩ := both_asleep 1 P D HP7.out.eq
    have HR1 := Lib.hid hr1
    have HP2 := Lib.hid (HP7.out.gro hg2 hbtw)
    have HR2 := Lib.hid ((hg2.block bd hbd7 (by simp)).trans HR7.out)
    have HTC2 := Lib.hid hTc
    clear HCL HP7 hg2 hTc hr1 HR7 hbd7 hbc
    generalize w7.heap.size = bc at *
    go_wp2_with fail
    refine (HR1.out _ _ HTC2.out).mono ?_
    rintro e w4 ⟨rfl, hg4⟩
    have HP4 := Lib.hid (HP2.out.gro hg4 hbtw)
    have HTC4 := Lib.hid (HTC2.out.gro hg4 (by simp))
    have HR4 := Lib.hid ((hg4.block bd (blk_in HR2.out) (by simp)).trans HR2.out)
    clear HP2 HTC2 hg4 HR2
    have HFAR := Lib.hid (fun w' (h : Two bt (bt + 1) w4 w') => h.far HP4.out.far hbtS (Nat.le_succ_of_le hbtS) (Nat.le_trans hbtw HP4.out.far.size))
    have HTCW := Lib.hid (fun w' (h : Two bt (bt + 1) w4 w') => h.pow HTC4.out (by omega) (by omega))
    have HBD := Lib.hid (fun w' (h : Two bt (bt + 1) w4 w') => (h.block bd (blk_in HR4.out) (by omega) (by omega)).trans HR4.out)
    have HC0 := Lib.hid (fun w' (h : Two bt (bt + 1) w4 w') => (show w'.cell? ⟨bd, 0, none⟩ = some (.int .i64 kd) from (cell_of_row w' bd 0 _ _ _ (HBD.out _ h)).trans rfl))
    have HC1 := Lib.hid (fun w' (h : Two bt (bt + 1) w4 w') => (show w'.cell? ⟨bd, 1, none⟩ = some (.int .i64 ka) from (cell_of_row w' bd 1 _ _ _ (HBD.out _ h)).trans rfl))
    have HC2 := Lib.hid (fun w' (h : Two bt (bt + 1) w4 w') => (show w'.cell? ⟨bd, 2, none⟩ = some (.int .i64 kn) from (cell_of_row w' bd 2 _ _ _ (HBD.out _ h)).trans rfl))
    have HC3 := Lib.hid (fun w' (h : Two bt (bt + 1) w4 w') => (show w'.cell? ⟨bd, 3, none⟩ = some (.bool on) from (cell_of_row w' bd 3 _ _ _ (HBD.out _ h)).trans rfl))
    have HSE := Lib.hid (fun w' (h : Two bt (bt + 1) w4 w') => (show Sent W.heap.size w' A ∧ W.heap.size ≤ w'.heap.size from ⟨HS.out.far (fun i hi => (HW.out w' (HFAR.out _ h)).block i (by rw [HSS.out]; exact hi)), (HW.out w' (HFAR.out _ h)).size⟩))
    have hq0 := HC0.out _ (Two.refl _ _ _)
    clear HR4
    go_upto_block 2 with fail
    go_cut [10, 11, 12, 13] from 43 to 159 (fun _ _ _ _ w => ∃ P' D', PJ w1 S bt (bt + 1) P' D' w ∧ Pow bc w P)
    case first =>
      by_cases h1 : kd = 1
      case pos =>
        subst h1
        skip
        as_aux_lemma =>
          obtain ⟨kk, P', D', hkk, hE', hc1, hc2⟩ := both_add ka kn u0 u1 u2 u3 P D HP4.out.eq
          have HA1 := Lib.hid (fun w' (h : Two bt (bt + 1) w4 w') (ht : Pow bt w' P) => hc1 bt w' A W.heap.size (HSE.out _ h).1 (HSE.out _ h).2 ht)
          have HA2 := Lib.hid (fun w' (h : DPow (bt + 1) w' D) => hc2 (bt + 1) w' h)
          have HIS := Lib.hid (fun w' (h : Two bt (bt + 1) w4 w') => is_any W.heap.size w' A (HSE.out w' h).1 (HSE.out w' h).2 kk hkk (codeOf kk))
          rw [decide_eq_true rfl] at HIS
          have HE' := Lib.hid hE'
          generalize codeOf kk = cd at *
          generalize errV A kk = ev at *
          clear hc1 hc2 hE' hkk HC HS HSE
          go_wp2_with fail
          refine wp_region_R (RP w4 bt (bt + 1) 7 15 P P' D D') (by kernel_rfl) (RP.mk false false (by kernel_rfl) (by kernel_rfl) ⟨(Two.refl _ _ _).none (Gro.drew (Gro.refl none w4)), HP4.out.p, HP4.out.d⟩) ?_
          refine takeR (i := 0) (x := 55) (v := .pointer (some ⟨bt, 0, none⟩)) rfl (by kernel_rfl) (by kernel_rfl) (by kernel_rfl) (fun _ _ _ h => h) (RP.on (by decide) (by decide)) (by intro l w h; go_simp) ?_
          simp only [Act.put, List.setIfInBounds_toArray, List.set_cons_zero, List.set_cons_succ]
          refine takeR (i := 1) (x := 56) (v := .pointer (some ⟨bd, 1, none⟩)) rfl (by kernel_rfl) (by kernel_rfl) (by kernel_rfl) (fun _ _ _ h => h) (RP.on (by decide) (by decide)) (by intro l w h; go_simp) ?_
          simp only [Act.put, List.setIfInBounds_toArray, List.set_cons_zero, List.set_cons_succ]
          refine takeR (i := 2) (x := 57) (v := .int .i64 ka) rfl (by kernel_rfl) (by kernel_rfl) (by kernel_rfl) (fun _ _ _ h => h) (RP.on (by decide) (by decide)) (by intro l w h; have hq := HC1.out _ h.1; clear h; go_simp) ?_
          simp only [Act.put, List.setIfInBounds_toArray, List.set_cons_zero, List.set_cons_succ]
          refine takeR (i := 3) (x := 58) (v := .pointer (some ⟨bd, 4, none⟩)) rfl (by kernel_rfl) (by kernel_rfl) (by kernel_rfl) (fun _ _ _ h => h) (RP.on (by decide) (by decide)) (by intro l w h; go_simp) ?_
          simp only [Act.put, List.setIfInBounds_toArray, List.set_cons_zero, List.set_cons_succ]
          refine takeR (i := 4) (x := 59) (v := .agg #[.bool u0, .bool u1, .bool u2, .bool u3]) rfl (by kernel_rfl) (by kernel_rfl) (by kernel_rfl) (fun _ _ _ h => h) (RP.on (by decide) (by decide)) (fun l w h => run_part 23 _ rfl bd 4 rfl _ _ 56 (HBD.out _ h.1) (sub_four rfl rfl rfl rfl) _ Tryd.underlying23 rfl (by kernel_rfl)) ?_
          simp only [Act.put, List.setIfInBounds_toArray, List.set_cons_zero, List.set_cons_succ]
          refine takeR (i := 5) (x := 60) (v := .pointer (some ⟨bd, 2, none⟩)) rfl (by kernel_rfl) (by kernel_rfl) (by kernel_rfl) (fun _ _ _ h => h) (RP.on (by decide) (by decide)) (by intro l w h; go_simp) ?_
          simp only [Act.put, List.setIfInBounds_toArray, List.set_cons_zero, List.set_cons_succ]
          refine takeR (i := 6) (x := 61) (v := .int .i64 kn) rfl (by kernel_rfl) (by kernel_rfl) (by kernel_rfl) (fun _ _ _ h => h) (RP.on (by decide) (by decide)) (by intro l w h; have hq := HC2.out _ h.1; clear h; go_simp) ?_
          simp only [Act.put, List.setIfInBounds_toArray, List.set_cons_zero, List.set_cons_succ]
          refine takeR (i := 8) (x := 63) (v := .pointer (some ⟨bt + 1, 0, none⟩)) rfl (by kernel_rfl) (by kernel_rfl) (by kernel_rfl) (fun _ _ _ h => h) (RP.on (by decide) (by decide)) (by intro l w h; go_simp) ?_
          simp only [Act.put, List.setIfInBounds_toArray, List.set_cons_zero, List.set_cons_succ]
          refine takeR (i := 9) (x := 64) (v := .pointer (some ⟨bd, 1, none⟩)) rfl (by kernel_rfl) (by kernel_rfl) (by kernel_rfl) (fun _ _ _ h => h) (RP.on (by decide) (by decide)) (by intro l w h; go_simp) ?_
          simp only [Act.put, List.setIfInBounds_toArray, List.set_cons_zero, List.set_cons_succ]
          refine takeR (i := 10) (x := 65) (v := .int .i64 ka) rfl (by kernel_rfl) (by kernel_rfl) (by kernel_rfl) (fun _ _ _ h => h) (RP.on (by decide) (by decide)) (by intro l w h; have hq := HC1.out _ h.1; clear h; go_simp) ?_
          simp only [Act.put, List.setIfInBounds_toArray, List.set_cons_zero, List.set_cons_succ]
          refine takeR (i := 11) (x := 66) (v := .pointer (some ⟨bd, 4, none⟩)) rfl (by kernel_rfl) (by kernel_rfl) (by kernel_rfl) (fun _ _ _ h => h) (RP.on (by decide) (by decide)) (by intro l w h; go_simp) ?_
          simp only [Act.put, List.setIfInBounds_toArray, List.set_cons_zero, List.set_cons_succ]
          refine takeR (i := 12) (x := 67) (v := .agg #[.bool u0, .bool u1, .bool u2, .bool u3]) rfl (by kernel_rfl) (by kernel_rfl) (by kernel_rfl) (fun _ _ _ h => h) (RP.on (by decide) (by decide)) (fun l w h => run_part 23 _ rfl bd 4 rfl _ _ 56 (HBD.out _ h.1) (sub_four rfl rfl rfl rfl) _ Tryd.underlying23 rfl (by kernel_rfl)) ?_
          simp only [Act.put, List.setIfInBounds_toArray, List.set_cons_zero, List.set_cons_succ]
          refine takeR (i := 13) (x := 68) (v := .pointer (some ⟨bd, 2, none⟩)) rfl (by kernel_rfl) (by kernel_rfl) (by kernel_rfl) (fun _ _ _ h => h) (RP.on (by decide) (by decide)) (by intro l w h; go_simp) ?_
          simp only [Act.put, List.setIfInBounds_toArray, List.set_cons_zero, List.set_cons_succ]
          refine takeR (i := 14) (x := 69) (v := .int .i64 kn) rfl (by kernel_rfl) (by kernel_rfl) (by kernel_rfl) (fun _ _ _ h => h) (RP.on (by decide) (by decide)) (by intro l w h; have hq := HC2.out _ h.1; clear h; go_simp) ?_
          simp only [Act.put, List.setIfInBounds_toArray, List.set_cons_zero, List.set_cons_succ]
          refine takeK (i := 7) (x := 62) (v := ev) 8 #[.pointer (some ⟨bt, 0, none⟩), .int .i64 ka, .agg #[.bool u0, .bool u1, .bool u2, .bool u3], .int .i64 kn] rfl (by kernel_rfl) (by intro w; go_simp) (fun w h => have hu := RP.un false false (by kernel_rfl) (by kernel_rfl) h; (HA1.out w hu.1 hu.2.1).mono fun e w' ⟨he, hg, ht⟩ => ⟨he, RP.mk true false (by kernel_rfl) (by kernel_rfl) ⟨hu.1.one hg, ht, hu.2.2.gro hg (by simp)⟩⟩) ?_
          simp only [Act.put, List.setIfInBounds_toArray, List.set_cons_zero, List.set_cons_succ]
          refine takeK (i := 15) (x := 70) (v := .int .i64 cd) 21 #[.pointer (some ⟨bt + 1, 0, none⟩), .int .i64 ka, .agg #[.bool u0, .bool u1, .bool u2, .bool u3], .int .i64 kn] rfl (by kernel_rfl) (by intro w; go_simp) (fun w h => have hu := RP.un true false (by kernel_rfl) (by kernel_rfl) h; (HA2.out w hu.2.2).mono fun e w' ⟨he, hg, ht⟩ => ⟨he, RP.mk true true (by kernel_rfl) (by kernel_rfl) ⟨hu.1.two hg, hu.2.1.gro hg (by simp), ht⟩⟩) ?_
          simp only [Act.put, List.setIfInBounds_toArray, List.set_cons_zero, List.set_cons_succ]
          refine takeK (i := 16) (x := 71) (v := .bool true) 18 #[ev, .int .i64 cd] rfl (by kernel_rfl) (by intro w; go_simp) (fun w h => have hu := RP.un true true (by kernel_rfl) (by kernel_rfl) h; (HIS.out w hu.1).mono fun e w' ⟨he, hg⟩ => ⟨he, RP.mk true true (by kernel_rfl) (by kernel_rfl) ⟨hu.1.none hg, hu.2.1.gro hg (by simp), hu.2.2.gro hg (by simp)⟩⟩) ?_
          simp only [Act.put, List.setIfInBounds_toArray, List.set_cons_zero, List.set_cons_succ]
          refine takeR (i := 17) (x := 72) (v := .bool false) rfl (by kernel_rfl) (by kernel_rfl) (by kernel_rfl) (fun _ _ _ h => h) (RP.on (by decide) (by decide)) (by intro l w h; go_simp) ?_
          simp only [Act.put, List.setIfInBounds_toArray, List.set_cons_zero, List.set_cons_succ]
          refine wpAnyS_done (by kernel_rfl) fun w5 h5 => ?_
          have hu := RP.un true true (by kernel_rfl) (by kernel_rfl) h5
          have HP7 := Lib.hid (⟨HFAR.out _ hu.1, hu.2.1, hu.2.2, HE'.out⟩ : PJ w1 S bt (bt + 1) P' D' w5)
          have HTC7 := Lib.hid (HTCW.out _ hu.1)
          clear h5 hu
          go_wp2_with fail
          go_meet
          case rel => exact ⟨P', D', HP7.out, HTC7.out⟩
      have hkd1 : (kd == 1) = false := by simpa using h1
      by_cases h2 : kd = 2
      case pos =>
        subst h2
        skip
        as_aux_lemma =>
          obtain ⟨P', D', hE', hc1, hc2⟩ := both_del ka P D HP4.out.eq
          have HA1 := Lib.hid (hc1 bt w4 A W.heap.size (HSE.out _ (Two.refl _ _ _)).1 (HSE.out _ (Two.refl _ _ _)).2 HP4.out.p)
          have HA2 := Lib.hid (fun w' (h : DPow (bt + 1) w' D) => hc2 (bt + 1) w' h)
          have HE' := Lib.hid hE'
          have hq1 := HC1.out _ (Two.refl _ _ _)
          clear hc1 hc2 hE' HC HS HSE
          go_wp2_with fail
          refine HA1.out.mono ?_
          rintro e w5 ⟨rfl, hg5, hP5⟩
          have HT5 := Lib.hid ((Two.refl bt (bt + 1) w4).one hg5)
          have HP5 := Lib.hid hP5
          have HD5 := Lib.hid (HP4.out.d.gro hg5 (by simp))
          have hq2 := HC1.out _ HT5.out
          clear hq1 HA1 hg5 hP5
          go_wp2_with fail
          refine (HA2.out _ HD5.out).mono ?_
          rintro e w6 ⟨rfl, hg6, hD6⟩
          have HT6 := Lib.hid (HT5.out.two hg6)
          have HP7 := Lib.hid (⟨HFAR.out _ HT6.out, HP5.out.gro hg6 (by simp), hD6, HE'.out⟩ : PJ w1 S bt (bt + 1) P' D' w6)
          have HTC7 := Lib.hid (HTCW.out _ HT6.out)
          clear hq2 HA2 hg6 hD6
          go_wp2_with fail
          go_meet
          case rel => exact ⟨P', D', HP7.out, HTC7.out⟩
      have hkd2 : (kd == 2) = false := by simpa using h2
      by_cases h3 : kd = 3
      case pos =>
        subst h3
        skip
        as_aux_lemma =>
          obtain ⟨kk, P', D', hkk, hE', hc1, hc2⟩ := both_doze ka on P D HP4.out.eq
          have HA1 := Lib.hid (fun w' (h : Two bt (bt + 1) w4 w') (ht : Pow bt w' P) => hc1 bt w' A W.heap.size (HSE.out _ h).1 (HSE.out _ h).2 ht)
          have HA2 := Lib.hid (fun w' (h : DPow (bt + 1) w' D) => hc2 (bt + 1) w' h)
          have HIS := Lib.hid (fun w' (h : Two bt (bt + 1) w4 w') => is_any W.heap.size w' A (HSE.out w' h).1 (HSE.out w' h).2 kk hkk (codeOf kk))
          rw [decide_eq_true rfl] at HIS
          have HE' := Lib.hid hE'
          generalize codeOf kk = cd at *
          generalize errV A kk = ev at *
          clear hc1 hc2 hE' hkk HC HS HSE
          go_wp2_with fail
          refine wp_region_R (RP w4 bt (bt + 1) 5 11 P P' D D') (by kernel_rfl) (RP.mk false false (by kernel_rfl) (by kernel_rfl) ⟨(Two.refl _ _ _).none (Gro.drew (Gro.refl none w4)), HP4.out.p, HP4.out.d⟩) ?_
          refine takeR (i := 0) (x := 85) (v := .pointer (some ⟨bt, 0, none⟩)) rfl (by kernel_rfl) (by kernel_rfl) (by kernel_rfl) (fun _ _ _ h => h) (RP.on (by decide) (by decide)) (by intro l w h; go_simp) ?_
          simp only [Act.put, List.setIfInBounds_toArray, List.set_cons_zero, List.set_cons_succ]
          refine takeR (i := 1) (x := 86) (v := .pointer (some ⟨bd, 1, none⟩)) rfl (by kernel_rfl) (by kernel_rfl) (by kernel_rfl) (fun _ _ _ h => h) (RP.on (by decide) (by decide)) (by intro l w h; go_simp) ?_
          simp only [Act.put, List.setIfInBounds_toArray, List.set_cons_zero, List.set_cons_succ]
          refine takeR (i := 2) (x := 87) (v := .int .i64 ka) rfl (by kernel_rfl) (by kernel_rfl) (by kernel_rfl) (fun _ _ _ h => h) (RP.on (by decide) (by decide)) (by intro l w h; have hq := HC1.out _ h.1; clear h; go_simp) ?_
          simp only [Act.put, List.setIfInBounds_toArray, List.set_cons_zero, List.set_cons_succ]
          refine takeR (i := 3) (x := 88) (v := .pointer (some ⟨bd, 3, none⟩)) rfl (by kernel_rfl) (by kernel_rfl) (by kernel_rfl) (fun _ _ _ h => h) (RP.on (by decide) (by decide)) (by intro l w h; go_simp) ?_
          simp only [Act.put, List.setIfInBounds_toArray, List.set_cons_zero, List.set_cons_succ]
          refine takeR (i := 4) (x := 89) (v := .bool on) rfl (by kernel_rfl) (by kernel_rfl) (by kernel_rfl) (fun _ _ _ h => h) (RP.on (by decide) (by decide)) (by intro l w h; have hq := HC3.out _ h.1; clear h; go_simp) ?_
          simp only [Act.put, List.setIfInBounds_toArray, List.set_cons_zero, List.set_cons_succ]
          refine takeR (i := 6) (x := 91) (v := .pointer (some ⟨bt + 1, 0, none⟩)) rfl (by kernel_rfl) (by kernel_rfl) (by kernel_rfl) (fun _ _ _ h => h) (RP.on (by decide) (by decide)) (by intro l w h; go_simp) ?_
          simp only [Act.put, List.setIfInBounds_toArray, List.set_cons_zero, List.set_cons_succ]
          refine takeR (i := 7) (x := 92) (v := .pointer (some ⟨bd, 1, none⟩)) rfl (by kernel_rfl) (by kernel_rfl) (by kernel_rfl) (fun _ _ _ h => h) (RP.on (by decide) (by decide)) (by intro l w h; go_simp) ?_
          simp only [Act.put, List.setIfInBounds_toArray, List.set_cons_zero, List.set_cons_succ]
          refine takeR (i := 8) (x := 93) (v := .int .i64 ka) rfl (by kernel_rfl) (by kernel_rfl) (by kernel_rfl) (fun _ _ _ h => h) (RP.on (by decide) (by decide)) (by intro l w h; have hq := HC1.out _ h.1; clear h; go_simp) ?_
          simp only [Act.put, List.setIfInBounds_toArray, List.set_cons_zero, List.set_cons_succ]
          refine takeR (i := 9) (x := 94) (v := .pointer (some ⟨bd, 3, none⟩)) rfl (by kernel_rfl) (by kernel_rfl) (by kernel_rfl) (fun _ _ _ h => h) (RP.on (by decide) (by decide)) (by intro l w h; go_simp) ?_
          simp only [Act.put, List.setIfInBounds_toArray, List.set_cons_zero, List.set_cons_succ]
          refine takeR (i := 10) (x := 95) (v := .bool on) rfl (by kernel_rfl) (by kernel_rfl) (by kernel_rfl) (fun _ _ _ h => h) (RP.on (by decide) (by decide)) (by intro l w h; have hq := HC3.out _ h.1; clear h; go_simp) ?_
          simp only [Act.put, List.setIfInBounds_toArray, List.set_cons_zero, List.set_cons_succ]
          refine takeK (i := 5) (x := 90) (v := ev) 10 #[.pointer (some ⟨bt, 0, none⟩), .int .i64 ka, .bool on] rfl (by kernel_rfl) (by intro w; go_simp) (fun w h => have hu := RP.un false false (by kernel_rfl) (by kernel_rfl) h; (HA1.out w hu.1 hu.2.1).mono fun e w' ⟨he, hg, ht⟩ => ⟨he, RP.mk true false (by kernel_rfl) (by kernel_rfl) ⟨hu.1.one hg, ht, hu.2.2.gro hg (by simp)⟩⟩) ?_
          simp only [Act.put, List.setIfInBounds_toArray, List.set_cons_zero, List.set_cons_succ]
          refine takeK (i := 11) (x := 96) (v := .int .i64 cd) 23 #[.pointer (some ⟨bt + 1, 0, none⟩), .int .i64 ka, .bool on] rfl (by kernel_rfl) (by intro w; go_simp) (fun w h => have hu := RP.un true false (by kernel_rfl) (by kernel_rfl) h; (HA2.out w hu.2.2).mono fun e w' ⟨he, hg, ht⟩ => ⟨he, RP.mk true true (by kernel_rfl) (by kernel_rfl) ⟨hu.1.two hg, hu.2.1.gro hg (by simp), ht⟩⟩) ?_
          simp only [Act.put, List.setIfInBounds_toArray, List.set_cons_zero, List.set_cons_succ]
          refine takeK (i := 12) (x := 97) (v := .bool true) 18 #[ev, .int .i64 cd] rfl (by kernel_rfl) (by intro w; go_simp) (fun w h => have hu := RP.un true true (by kernel_rfl) (by kernel_rfl) h; (HIS.out w hu.1).mono fun e w' ⟨he, hg⟩ => ⟨he, RP.mk true true (by kernel_rfl) (by kernel_rfl) ⟨hu.1.none hg, hu.2.1.gro hg (by simp), hu.2.2.gro hg (by simp)⟩⟩) ?_
          simp only [Act.put, List.setIfInBounds_toArray, List.set_cons_zero, List.set_cons_succ]
          refine takeR (i := 13) (x := 98) (v := .bool false) rfl (by kernel_rfl) (by kernel_rfl) (by kernel_rfl) (fun _ _ _ h => h) (RP.on (by decide) (by decide)) (by intro l w h; go_simp) ?_
          simp only [Act.put, List.setIfInBounds_toArray, List.set_cons_zero, List.set_cons_succ]
          refine wpAnyS_done (by kernel_rfl) fun w5 h5 => ?_
          have hu := RP.un true true (by kernel_rfl) (by kernel_rfl) h5
          have HP7 := Lib.hid (⟨HFAR.out _ hu.1, hu.2.1, hu.2.2, HE'.out⟩ : PJ w1 S bt (bt + 1) P' D' w5)
          have HTC7 := Lib.hid (HTCW.out _ hu.1)
          clear h5 hu
          go_wp2_with fail
          go_meet
          case rel => exact ⟨P', D', HP7.out, HTC7.out⟩
      have hkd3 : (kd == 3) = false := by simpa using h3
      by_cases h4 : kd = 4
      case pos =>
        subst h4
        skip
        as_aux_lemma =>
          obtain ⟨kk, P', D', hkk, hE', hc1, hc2⟩ := both_poll ka P D HP4.out.eq
          have HA1 := Lib.hid (fun w' (h : Two bt (bt + 1) w4 w') (ht : Pow bt w' P) => hc1 bt w' A W.heap.size (HSE.out _ h).1 (HSE.out _ h).2 ht)
          have HA2 := Lib.hid (fun w' (h : DPow (bt + 1) w' D) => hc2 (bt + 1) w' h)
          have HIS := Lib.hid (fun w' (h : Two bt (bt + 1) w4 w') => is_any W.heap.size w' A (HSE.out w' h).1 (HSE.out w' h).2 kk hkk (codeOf kk))
          rw [decide_eq_true rfl] at HIS
          have HE' := Lib.hid hE'
          generalize codeOf kk = cd at *
          generalize errV A kk = ev at *
          clear hc1 hc2 hE' hkk HC HS HSE
          go_wp2_with fail
          refine wp_region_R (RP w4 bt (bt + 1) 3 7 P P' D D') (by kernel_rfl) (RP.mk false false (by kernel_rfl) (by kernel_rfl) ⟨(Two.refl _ _ _).none (Gro.drew (Gro.refl none w4)), HP4.out.p, HP4.out.d⟩) ?_
          refine takeR (i := 0) (x := 101) (v := .pointer (some ⟨bt, 0, none⟩)) rfl (by kernel_rfl) (by kernel_rfl) (by kernel_rfl) (fun _ _ _ h => h) (RP.on (by decide) (by decide)) (by intro l w h; go_simp) ?_
          simp only [Act.put, List.setIfInBounds_toArray, List.set_cons_zero, List.set_cons_succ]
          refine takeR (i := 1) (x := 102) (v := .pointer (some ⟨bd, 1, none⟩)) rfl (by kernel_rfl) (by kernel_rfl) (by kernel_rfl) (fun _ _ _ h => h) (RP.on (by decide) (by decide)) (by intro l w h; go_simp) ?_
          simp only [Act.put, List.setIfInBounds_toArray, List.set_cons_zero, List.set_cons_succ]
          refine takeR (i := 2) (x := 103) (v := .int .i64 ka) rfl (by kernel_rfl) (by kernel_rfl) (by kernel_rfl) (fun _ _ _ h => h) (RP.on (by decide) (by decide)) (by intro l w h; have hq := HC1.out _ h.1; clear h; go_simp) ?_
          simp only [Act.put, List.setIfInBounds_toArray, List.set_cons_zero, List.set_cons_succ]
          refine takeR (i := 4) (x := 105) (v := .pointer (some ⟨bt + 1, 0, none⟩)) rfl (by kernel_rfl) (by kernel_rfl) (by kernel_rfl) (fun _ _ _ h => h) (RP.on (by decide) (by decide)) (by intro l w h; go_simp) ?_
          simp only [Act.put, List.setIfInBounds_toArray, List.set_cons_zero, List.set_cons_succ]
          refine takeR (i := 5) (x := 106) (v := .pointer (some ⟨bd, 1, none⟩)) rfl (by kernel_rfl) (by kernel_rfl) (by kernel_rfl) (fun _ _ _ h => h) (RP.on (by decide) (by decide)) (by intro l w h; go_simp) ?_
          simp only [Act.put, List.setIfInBounds_toArray, List.set_cons_zero, List.set_cons_succ]
          refine takeR (i := 6) (x := 107) (v := .int .i64 ka) rfl (by kernel_rfl) (by kernel_rfl) (by kernel_rfl) (fun _ _ _ h => h) (RP.on (by decide) (by decide)) (by intro l w h; have hq := HC1.out _ h.1; clear h; go_simp) ?_
          simp only [Act.put, List.setIfInBounds_toArray, List.set_cons_zero, List.set_cons_succ]
          refine takeK (i := 3) (x := 104) (v := ev) 11 #[.pointer (some ⟨bt, 0, none⟩), .int .i64 ka] rfl (by kernel_rfl) (by intro w; go_simp) (fun w h => have hu := RP.un false false (by kernel_rfl) (by kernel_rfl) h; (HA1.out w hu.1 hu.2.1).mono fun e w' ⟨he, hg, ht⟩ => ⟨he, RP.mk true false (by kernel_rfl) (by kernel_rfl) ⟨hu.1.one hg, ht, hu.2.2.gro hg (by simp)⟩⟩) ?_
          simp only [Act.put, List.setIfInBounds_toArray, List.set_cons_zero, List.set_cons_succ]
          refine takeK (i := 7) (x := 108) (v := .int .i64 cd) 24 #[.pointer (some ⟨bt + 1, 0, none⟩), .int .i64 ka] rfl (by kernel_rfl) (by intro w; go_simp) (fun w h => have hu := RP.un true false (by kernel_rfl) (by kernel_rfl) h; (HA2.out w hu.2.2).mono fun e w' ⟨he, hg, ht⟩ => ⟨he, RP.mk true true (by kernel_rfl) (by kernel_rfl) ⟨hu.1.two hg, hu.2.1.gro hg (by simp), ht⟩⟩) ?_
          simp only [Act.put, List.setIfInBounds_toArray, List.set_cons_zero, List.set_cons_succ]
          refine takeK (i := 8) (x := 109) (v := .bool true) 18 #[ev, .int .i64 cd] rfl (by kernel_rfl) (by intro w; go_simp) (fun w h => have hu := RP.un true true (by kernel_rfl) (by kernel_rfl) h; (HIS.out w hu.1).mono fun e w' ⟨he, hg⟩ => ⟨he, RP.mk true true (by kernel_rfl) (by kernel_rfl) ⟨hu.1.none hg, hu.2.1.gro hg (by simp), hu.2.2.gro hg (by simp)⟩⟩) ?_
          simp only [Act.put, List.setIfInBounds_toArray, List.set_cons_zero, List.set_cons_succ]
          refine takeR (i := 9) (x := 110) (v := .bool false) rfl (by kernel_rfl) (by kernel_rfl) (by kernel_rfl) (fun _ _ _ h => h) (RP.on (by decide) (by decide)) (by intro l w h; go_simp) ?_
          simp only [Act.put, List.setIfInBounds_toArray, List.set_cons_zero, List.set_cons_succ]
          refine wpAnyS_done (by kernel_rfl) fun w5 h5 => ?_
          have hu := RP.un true true (by kernel_rfl) (by kernel_rfl) h5
          have HP7 := Lib.hid (⟨HFAR.out _ hu.1, hu.2.1, hu.2.2, HE'.out⟩ : PJ w1 S bt (bt + 1) P' D' w5)
          have HTC7 := Lib.hid (HTCW.out _ hu.1)
          clear h5 hu
          go_wp2_with fail
          go_meet
          case rel => exact ⟨P', D', HP7.out, HTC7.out⟩
      have hkd4 : (kd == 4) = false := by simpa using h4
      by_cases h5 : kd = 5
      case pos =>
        subst h5
        skip
        as_aux_lemma =>
          obtain ⟨kk, P', D', hkk, hE', hc1, hc2⟩ := both_trigger ka kn P D HP4.out.eq
          have HA1 := Lib.hid (fun w' (h : Two bt (bt + 1) w4 w') (ht : Pow bt w' P) => hc1 bt w' A W.heap.size (HSE.out _ h).1 (HSE.out _ h).2 ht)
          have HA2 := Lib.hid (fun w' (h : DPow (bt + 1) w' D) => hc2 (bt + 1) w' h)
          have HIS := Lib.hid (fun w' (h : Two bt (bt + 1) w4 w') => is_any W.heap.size w' A (HSE.out w' h).1 (HSE.out w' h).2 kk hkk (codeOf kk))
          rw [decide_eq_true rfl] at HIS
          have HE' := Lib.hid hE'
          generalize codeOf kk = cd at *
          generalize errV A kk = ev at *
          clear hc1 hc2 hE' hkk HC HS HSE
          go_wp2_with fail
          refine wp_region_R (RP w4 bt (bt + 1) 5 11 P P' D D') (by kernel_rfl) (RP.mk false false (by kernel_rfl) (by kernel_rfl) ⟨(Two.refl _ _ _).none (Gro.drew (Gro.refl none w4)), HP4.out.p, HP4.out.d⟩) ?_
          refine takeR (i := 0) (x := 113) (v := .pointer (some ⟨bt, 0, none⟩)) rfl (by kernel_rfl) (by kernel_rfl) (by kernel_rfl) (fun _ _ _ h => h) (RP.on (by decide) (by decide)) (by intro l w h; go_simp) ?_
          simp only [Act.put, List.setIfInBounds_toArray, List.set_cons_zero, List.set_cons_succ]
          refine takeR (i := 1) (x := 114) (v := .pointer (some ⟨bd, 1, none⟩)) rfl (by kernel_rfl) (by kernel_rfl) (by kernel_rfl) (fun _ _ _ h => h) (RP.on (by decide) (by decide)) (by intro l w h; go_simp) ?_
          simp only [Act.put, List.setIfInBounds_toArray, List.set_cons_zero, List.set_cons_succ]
          refine takeR (i := 2) (x := 115) (v := .int .i64 ka) rfl (by kernel_rfl) (by kernel_rfl) (by kernel_rfl) (fun _ _ _ h => h) (RP.on (by decide) (by decide)) (by intro l w h; have hq := HC1.out _ h.1; clear h; go_simp) ?_
          simp only [Act.put, List.setIfInBounds_toArray, List.set_cons_zero, List.set_cons_succ]
          refine takeR (i := 3) (x := 116) (v := .pointer (some ⟨bd, 2, none⟩)) rfl (by kernel_rfl) (by kernel_rfl) (by kernel_rfl) (fun _ _ _ h => h) (RP.on (by decide) (by decide)) (by intro l w h; go_simp) ?_
          simp only [Act.put, List.setIfInBounds_toArray, List.set_cons_zero, List.set_cons_succ]
          refine takeR (i := 4) (x := 117) (v := .int .i64 kn) rfl (by kernel_rfl) (by kernel_rfl) (by kernel_rfl) (fun _ _ _ h => h) (RP.on (by decide) (by decide)) (by intro l w h; have hq := HC2.out _ h.1; clear h; go_simp) ?_
          simp only [Act.put, List.setIfInBounds_toArray, List.set_cons_zero, List.set_cons_succ]
          refine takeR (i := 6) (x := 119) (v := .pointer (some ⟨bt + 1, 0, none⟩)) rfl (by kernel_rfl) (by kernel_rfl) (by kernel_rfl) (fun _ _ _ h => h) (RP.on (by decide) (by decide)) (by intro l w h; go_simp) ?_
          simp only [Act.put, List.setIfInBounds_toArray, List.set_cons_zero, List.set_cons_succ]
          refine takeR (i := 7) (x := 120) (v := .pointer (some ⟨bd, 1, none⟩)) rfl (by kernel_rfl) (by kernel_rfl) (by kernel_rfl) (fun _ _ _ h => h) (RP.on (by decide) (by decide)) (by intro l w h; go_simp) ?_
          simp only [Act.put, List.setIfInBounds_toArray, List.set_cons_zero, List.set_cons_succ]
          refine takeR (i := 8) (x := 121) (v := .int .i64 ka) rfl (by kernel_rfl) (by kernel_rfl) (by kernel_rfl) (fun _ _ _ h => h) (RP.on (by decide) (by decide)) (by intro l w h; have hq := HC1.out _ h.1; clear h; go_simp) ?_
          simp only [Act.put, List.setIfInBounds_toArray, List.set_cons_zero, List.set_cons_succ]
          refine takeR (i := 9) (x := 122) (v := .pointer (some ⟨bd, 2, none⟩)) rfl (by kernel_rfl) (by kernel_rfl) (by kernel_rfl) (fun _ _ _ h => h) (RP.on (by decide) (by decide)) (by intro l w h; go_simp) ?_
          simp only [Act.put, List.setIfInBounds_toArray, List.set_cons_zero, List.set_cons_succ]
          refine takeR (i := 10) (x := 123) (v := .int .i64 kn) rfl (by kernel_rfl) (by kernel_rfl) (by kernel_rfl) (fun _ _ _ h => h) (RP.on (by decide) (by decide)) (by intro l w h; have hq := HC2.out _ h.1; clear h; go_simp) ?_
          simp only [Act.put, List.setIfInBounds_toArray, List.set_cons_zero, List.set_cons_succ]
          refine takeK (i := 5) (x := 118) (v := ev) 17 #[.pointer (some ⟨bt, 0, none⟩), .int .i64 ka, .int .i64 kn] rfl (by kernel_rfl) (by intro w; go_simp) (fun w h => have hu := RP.un false false (by kernel_rfl) (by kernel_rfl) h; (HA1.out w hu.1 hu.2.1).mono fun e w' ⟨he, hg, ht⟩ => ⟨he, RP.mk true false (by kernel_rfl) (by kernel_rfl) ⟨hu.1.one hg, ht, hu.2.2.gro hg (by simp)⟩⟩) ?_
          simp only [Act.put, List.setIfInBounds_toArray, List.set_cons_zero, List.set_cons_succ]
          refine takeK (i := 11) (x := 124) (v := .int .i64 cd) 25 #[.pointer (some ⟨bt + 1, 0, none⟩), .int .i64 ka, .int .i64 kn] rfl (by kernel_rfl) (by intro w; go_simp) (fun w h => have hu := RP.un true false (by kernel_rfl) (by kernel_rfl) h; (HA2.out w hu.2.2).mono fun e w' ⟨he, hg, ht⟩ => ⟨he, RP.mk true true (by kernel_rfl) (by kernel_rfl) ⟨hu.1.two hg, hu.2.1.gro hg (by simp), ht⟩⟩) ?_
          simp only [Act.put, List.setIfInBounds_toArray, List.set_cons_zero, List.set_cons_succ]
          refine takeK (i := 12) (x := 125) (v := .bool true) 18 #[ev, .int .i64 cd] rfl (by kernel_rfl) (by intro w; go_simp) (fun w h => have hu := RP.un true true (by kernel_rfl) (by kernel_rfl) h; (HIS.out w hu.1).mono fun e w' ⟨he, hg⟩ => ⟨he, RP.mk true true (by kernel_rfl) (by kernel_rfl) ⟨hu.1.none hg, hu.2.1.gro hg (by simp), hu.2.2.gro hg (by simp)⟩⟩) ?_
          simp only [Act.put, List.setIfInBounds_toArray, List.set_cons_zero, List.set_cons_succ]
          refine takeR (i := 13) (x := 126) (v := .bool false) rfl (by kernel_rfl) (by kernel_rfl) (by kernel_rfl) (fun _ _ _ h => h) (RP.on (by decide) (by decide)) (by intro l w h; go_simp) ?_
          simp only [Act.put, List.setIfInBounds_toArray, List.set_cons_zero, List.set_cons_succ]
          refine wpAnyS_done (by kernel_rfl) fun w5 h5 => ?_
          have hu := RP.un true true (by kernel_rfl) (by kernel_rfl) h5
          have HP7 := Lib.hid (⟨HFAR.out _ hu.1, hu.2.1, hu.2.2, HE'.out⟩ : PJ w1 S bt (bt + 1) P' D' w5)
          have HTC7 := Lib.hid (HTCW.out _ hu.1)
          clear h5 hu
          go_wp2_with fail
          go_meet
          case rel => exact ⟨P', D', HP7.out, HTC7.out⟩
      have hkd5 : (kd == 5) = false := by simpa using h5
      by_cases h6 : kd = 6
      case pos =>
        subst h6
        skip
        as_aux_lemma =>
          obtain ⟨r, kk, P', D', hkk, hE', hc1, hc2⟩ := both_sent ka kn on P D HP4.out.eq
          have HA1 := Lib.hid (hc1 bt w4 A W.heap.size (HSE.out _ (Two.refl _ _ _)).1 (HSE.out _ (Two.refl _ _ _)).2 HP4.out.p)
          have HA2 := Lib.hid (fun w' (h : DPow (bt + 1) w' D) => hc2 (bt + 1) w' h)
          have HIS := Lib.hid (fun w' (h : Two bt (bt + 1) w4 w') => is_any W.heap.size w' A (HSE.out w' h).1 (HSE.out w' h).2 kk hkk (codeOf kk))
          rw [decide_eq_true rfl] at HIS
          have HE' := Lib.hid hE'
          generalize codeOf kk = cd at *
          generalize errV A kk = ev at *
          have hq1 := HC1.out _ (Two.refl _ _ _)
          have hq2 := HC2.out _ (Two.refl _ _ _)
          have hq3 := HC3.out _ (Two.refl _ _ _)
          clear hc1 hc2 hE' hkk HC HS HSE
          go_wp2_with fail
          refine HA1.out.mono ?_
          rintro e w5 ⟨rfl, hg5, hP5⟩
          have HT5 := Lib.hid ((Two.refl bt (bt + 1) w4).one hg5)
          have HP5 := Lib.hid hP5
          have HD5 := Lib.hid (HP4.out.d.gro hg5 (by simp))
          clear hq1 hq2 hq3
          have hq1 := HC1.out _ HT5.out
          have hq2 := HC2.out _ HT5.out
          have hq3 := HC3.out _ HT5.out
          clear HA1 hg5 hP5
          go_wp2_with fail
          refine (HA2.out _ HD5.out).mono ?_
          rintro e w6 ⟨rfl, hg6, hD6⟩
          have HT6 := Lib.hid (HT5.out.two hg6)
          have HP6 := Lib.hid (HP5.out.gro hg6 (by simp))
          have HD6 := Lib.hid hD6
          have hrr : (r != r) = false := by cases r <;> rfl
          clear hq1 hq2 hq3 HA2 hg6 hD6
          go_wp2_with fail
          refine (HIS.out _ HT6.out).mono ?_
          rintro e w7 ⟨rfl, hg7⟩
          have HT7 := Lib.hid (HT6.out.none hg7)
          have HP7 := Lib.hid (⟨HFAR.out _ HT7.out, HP6.out.gro hg7 (by simp), HD6.out.gro hg7 (by simp), HE'.out⟩ : PJ w1 S bt (bt + 1) P' D' w7)
          have HTC7 := Lib.hid (HTCW.out _ HT7.out)
          clear hg7
          go_wp2_with fail
          go_meet
          case rel => exact ⟨P', D', HP7.out, HTC7.out⟩
      have hkd6 : (kd == 6) = false := by simpa using h6
      skip
      as_aux_lemma =>
        obtain ⟨kk, P', D', hkk, hE', hc1, hc2⟩ := both_close ka P D HP4.out.eq
        have HA1 := Lib.hid (fun w' (h : Two bt (bt + 1) w4 w') (ht : Pow bt w' P) => hc1 bt w' A W.heap.size (HSE.out _ h).1 (HSE.out _ h).2 ht)
        have HA2 := Lib.hid (fun w' (h : DPow (bt + 1) w' D) => hc2 (bt + 1) w' h)
        have HIS := Lib.hid (fun w' (h : Two bt (bt + 1) w4 w') => is_any W.heap.size w' A (HSE.out w' h).1 (HSE.out w' h).2 kk hkk (codeOf kk))
        rw [decide_eq_true rfl] at HIS
        have HE' := Lib.hid hE'
        generalize codeOf kk = cd at *
        generalize errV A kk = ev at *
        clear hc1 hc2 hE' hkk HC HS HSE
        go_wp2_with fail
        refine wp_region_R (RP w4 bt (bt + 1) 3 7 P P' D D') (by kernel_rfl) (RP.mk false false (by kernel_rfl) (by kernel_rfl) ⟨(Two.refl _ _ _).none (Gro.drew (Gro.refl none w4)), HP4.out.p, HP4.out.d⟩) ?_
        refine takeR (i := 0) (x := 43) (v := .pointer (some ⟨bt, 0, none⟩)) rfl (by kernel_rfl) (by kernel_rfl) (by kernel_rfl) (fun _ _ _ h => h) (RP.on (by decide) (by decide)) (by intro l w h; go_simp) ?_
        simp only [Act.put, List.setIfInBounds_toArray, List.set_cons_zero, List.set_cons_succ]
        refine takeR (i := 1) (x := 44) (v := .pointer (some ⟨bd, 1, none⟩)) rfl (by kernel_rfl) (by kernel_rfl) (by kernel_rfl) (fun _ _ _ h => h) (RP.on (by decide) (by decide)) (by intro l w h; go_simp) ?_
        simp only [Act.put, List.setIfInBounds_toArray, List.set_cons_zero, List.set_cons_succ]
        refine takeR (i := 2) (x := 45) (v := .int .i64 ka) rfl (by kernel_rfl) (by kernel_rfl) (by kernel_rfl) (fun _ _ _ h => h) (RP.on (by decide) (by decide)) (by intro l w h; have hq := HC1.out _ h.1; clear h; go_simp) ?_
        simp only [Act.put, List.setIfInBounds_toArray, List.set_cons_zero, List.set_cons_succ]
        refine takeR (i := 4) (x := 47) (v := .pointer (some ⟨bt + 1, 0, none⟩)) rfl (by kernel_rfl) (by kernel_rfl) (by kernel_rfl) (fun _ _ _ h => h) (RP.on (by decide) (by decide)) (by intro l w h; go_simp) ?_
        simp only [Act.put, List.setIfInBounds_toArray, List.set_cons_zero, List.set_cons_succ]
        refine takeR (i := 5) (x := 48) (v := .pointer (some ⟨bd, 1, none⟩)) rfl (by kernel_rfl) (by kernel_rfl) (by kernel_rfl) (fun _ _ _ h => h) (RP.on (by decide) (by decide)) (by intro l w h; go_simp) ?_
        simp only [Act.put, List.setIfInBounds_toArray, List.set_cons_zero, List.set_cons_succ]
        refine takeR (i := 6) (x := 49) (v := .int .i64 ka) rfl (by kernel_rfl) (by kernel_rfl) (by kernel_rfl) (fun _ _ _ h => h) (RP.on (by decide) (by decide)) (by intro l w h; have hq := HC1.out _ h.1; clear h; go_simp) ?_
        simp only [Act.put, List.setIfInBounds_toArray, List.set_cons_zero, List.set_cons_succ]
        refine takeK (i := 3) (x := 46) (v := ev) 19 #[.pointer (some ⟨bt, 0, none⟩), .int .i64 ka] rfl (by kernel_rfl) (by intro w; go_simp) (fun w h => have hu := RP.un false false (by kernel_rfl) (by kernel_rfl) h; (HA1.out w hu.1 hu.2.1).mono fun e w' ⟨he, hg, ht⟩ => ⟨he, RP.mk true false (by kernel_rfl) (by kernel_rfl) ⟨hu.1.one hg, ht, hu.2.2.gro hg (by simp)⟩⟩) ?_
        simp only [Act.put, List.setIfInBounds_toArray, List.set_cons_zero, List.set_cons_succ]
        refine takeK (i := 7) (x := 50) (v := .int .i64 cd) 27 #[.pointer (some ⟨bt + 1, 0, none⟩), .int .i64 ka] rfl (by kernel_rfl) (by intro w; go_simp) (fun w h => have hu := RP.un true false (by kernel_rfl) (by kernel_rfl) h; (HA2.out w hu.2.2).mono fun e w' ⟨he, hg, ht⟩ => ⟨he, RP.mk true true (by kernel_rfl) (by kernel_rfl) ⟨hu.1.two hg, hu.2.1.gro hg (by simp), ht⟩⟩) ?_
        simp only [Act.put, List.setIfInBounds_toArray, List.set_cons_zero, List.set_cons_succ]
        refine takeK (i := 8) (x := 51) (v := .bool true) 18 #[ev, .int .i64 cd] rfl (by kernel_rfl) (by intro w; go_simp) (fun w h => have hu := RP.un true true (by kernel_rfl) (by kernel_rfl) h; (HIS.out w hu.1).mono fun e w' ⟨he, hg⟩ => ⟨he, RP.mk true true (by kernel_rfl) (by kernel_rfl) ⟨hu.1.none hg, hu.2.1.gro hg (by simp), hu.2.2.gro hg (by simp)⟩⟩) ?_
        simp only [Act.put, List.setIfInBounds_toArray, List.set_cons_zero, List.set_cons_succ]
        refine takeR (i := 9) (x := 52) (v := .bool false) rfl (by kernel_rfl) (by kernel_rfl) (by kernel_rfl) (fun _ _ _ h => h) (RP.on (by decide) (by decide)) (by intro l w h; go_simp) ?_
        simp only [Act.put, List.setIfInBounds_toArray, List.set_cons_zero, List.set_cons_succ]
        refine wpAnyS_done (by kernel_rfl) fun w5 h5 => ?_
        have hu := RP.un true true (by kernel_rfl) (by kernel_rfl) h5
        have HP7 := Lib.hid (⟨HFAR.out _ hu.1, hu.2.1, hu.2.2, HE'.out⟩ : PJ w1 S bt (bt + 1) P' D' w5)
        have HTC7 := Lib.hid (HTCW.out _ hu.1)
        clear h5 hu
        go_wp2_with fail
        go_meet
        case rel => exact ⟨P', D', HP7.out, HTC7.out⟩
    case rest =>
    obtain ⟨P', D', hP, hTc⟩ := hcut
    have HP := Lib.hid hP
    have HTC := Lib.hid hTc
    clear hP hTc hq0 HP4 HTC4 HC HS HFAR HTCW HBD HC0 HC1 HC2 HC3 HSE
    go_wp2_with fail
    go_loopw [14] (fun i wr => ∃ q : Nat, q ≤ 18 ∧ i = .int .i64 q ∧ Gro none wc wr) (fun i _ => 18 - (intOf i).toNat)
    case atStart => exact ⟨0, by omega, rfl, Gro.refl _ _⟩
    case round =>
      obtain ⟨q, hq, rfl, hgq⟩ := hrel
      by_cases h18 : q ≤ 17
      case neg =>
        obtain rfl : q = 18 := by omega
        have HP9 := Lib.hid (HP.out.gro hgq hbtw)
        have HTC9 := Lib.hid (HTC.out.gro hgq (by simp))
        have hrr : (r1 != r1) = false := by cases r1 <;> rfl
        clear hgq
        go_wp2_with fail
        refine (HR1.out _ _ HTC9.out).mono ?_
        rintro e w8 ⟨rfl, hg8⟩
        have HP8 := Lib.hid (HP9.out.gro hg8 hbtw)
        clear hg8
        go_wp2_with fail
        go_roundw
        case rel => exact ⟨k + 1, P', D', by omega, by go_num, HP8.out⟩
        case measure => simp [intOf]; omega
      have i17 : (q : Int) ≤ 17 := by omega
      have i00 : (0 : Int) ≤ (q : Int) := by omega
      obtain ⟨rs, hs1, hs2⟩ := both_asleep (q : Int) P' D' HP.out.eq
      obtain ⟨rp, hp1, hp2⟩ := both_polled (q : Int) P' D' HP.out.eq
      have HS1 := Lib.hid (fun w' (h : Gro none wc w') => hs1 bt w' (HP.out.p.gro h (by simp)))
      have HS2 := Lib.hid (fun w' (h : Gro none wc w') => hs2 (bt + 1) w' (HP.out.d.gro h (by simp)))
      have HP1 := Lib.hid (fun w' (h : Gro none wc w') => hp1 bt w' (HP.out.p.gro h (by simp)))
      have HP2 := Lib.hid (fun w' (h : Gro none wc w') => hp2 (bt + 1) w' (HP.out.d.gro h (by simp)))
      have hrs : (rs != rs) = false := by cases rs <;> rfl
      have hrp : (rp != rp) = false := by cases rp <;> rfl
      have HGQ := Lib.hid hgq
      clear hs1 hs2 hp1 hp2 hgq
      go_wp2_with fail
      refine (HS1.out _ HGQ.out).mono ?_
      rintro e x1 ⟨rfl, hx⟩
      have HX1 := Lib.hid (HGQ.out.trans hx)
      clear hx HS1
      go_wp2_with fail
      refine (HS2.out _ HX1.out).mono ?_
      rintro e x2 ⟨rfl, hx⟩
      have HX2 := Lib.hid (HX1.out.trans hx)
      clear hx HS2 HX1
      go_wp2_with fail
      refine (HP1.out _ HX2.out).mono ?_
      rintro e x3 ⟨rfl, hx⟩
      have HX3 := Lib.hid (HX2.out.trans hx)
      clear hx HP1 HX2
      go_wp2_with fail
      refine (HP2.out _ HX3.out).mono ?_
      rintro e x4 ⟨rfl, hx⟩
      have HX4 := Lib.hid (HX3.out.trans hx)
      clear hx HP2 HX3
      go_wp2_with fail
      go_loopw [15] (fun i wq => ∃ z : Int, -1 ≤ z ∧ z ≤ 5 ∧ i = .int .i64 z ∧ Gro none wc wq) (fun i _ => (5 - intOf i).toNat)
      case atStart => exact ⟨-1, by omega, by omega, rfl, HX4.out⟩
      case round =>
        obtain ⟨z, hz1, hz5, rfl, hgz⟩ := hrel
        have HGZ := Lib.hid hgz
        clear hgz
        by_cases h5 : z ≤ 4
        case neg =>
          obtain rfl : z = 5 := by omega
          go_wp2_with fail
          go_roundw
          case rel => exact ⟨q + 1, by omega, by go_num, HGZ.out⟩
          case measure => simp [intOf]; omega
        obtain ⟨rm, hm1, hm2⟩ := both_may (q : Int) z P' D' HP.out.eq
        have HM1 := Lib.hid (fun w' (h : Gro none wc w') => hm1 bt w' (HP.out.p.gro h (by simp)))
        have HM2 := Lib.hid (fun w' (h : Gro none wc w') => hm2 (bt + 1) w' (HP.out.d.gro h (by simp)))
        have hrm : (rm != rm) = false := by cases rm <;> rfl
        clear hm1 hm2
        go_wp2_with fail
        refine (HM1.out _ HGZ.out).mono ?_
        rintro e x5 ⟨rfl, hx⟩
        have HX5 := Lib.hid (HGZ.out.trans hx)
        clear hx HM1
        go_wp2_with fail
        refine (HM2.out _ HX5.out).mono ?_
        rintro e x6 ⟨rfl, hx⟩
        have HX6 := Lib.hid (HX5.out.trans hx)
        clear hx HM2 HX5
        go_wp2_with fail
        go_roundw
        case rel => exact ⟨z + 1, by omega, by omega, by go_num, HX6.out⟩
        case measure => simp [intOf]; omega
end Go.Proofs.YtkklnocbbpaipaaDoor
