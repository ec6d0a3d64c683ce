/-
  THE WALK OF AqlPlays: whatever is told, the program's limit and the document's answer alike. Conditions: the list's cells are readable, the sentinels lie ('Sent').
-/
import Derived.Test.YtcoohlejbeoibaaDoorAqlRef
namespace Go.Proofs.YtcoohlejbeoibaaDoor
open Go.RowKit Aql

/-! ### What a telling does, in one word for the program and the document. -/
def badA (a n : Int) : Prop := (a < 1 ∨ 16 < a) ∨ n < 0 ∨ 1099511627776 < n
instance (a n : Int) : Decidable (badA a n) := by unfold badA; infer_instance
def addK (a n : Int) : Nat := if badA a n then 3 else 0
def addF (a n : Int) (f : Nat → Int) : Nat → Int := if badA a n then f else upd f (a.toNat - 1) (f (a.toNat - 1) + n)
def subK (a n : Int) (f : Nat → Int) : Nat := if badA a n then 3 else if f (a.toNat - 1) < n then 10 else 0
def subF (a n : Int) (f : Nat → Int) : Nat → Int := if badA a n then f else if f (a.toNat - 1) < n then f else upd f (a.toNat - 1) (f (a.toNat - 1) - n)
def clrF (a : Int) (f : Nat → Int) : Nat → Int := if 1 ≤ a ∧ a ≤ 16 then upd f (a.toNat - 1) 0 else f

/-- Every number is at most k times the greatest amount. -/
def Small (k : Nat) (f : Nat → Int) : Prop := ∀ j, j < 16 → 0 ≤ f j ∧ f j ≤ 1099511627776 * k
theorem Small.add {k : Nat} {f : Nat → Int} (h : Small k f) (a n : Int) : Small (k + 1) (addF a n f) := by
  unfold addF
  intro j hj
  have h1 := h j hj
  split
  · omega
  · rename_i hb
    unfold badA at hb
    have h2 := h (a.toNat - 1) (by omega)
    unfold upd
    split <;> omega
theorem Small.sub {k : Nat} {f : Nat → Int} (h : Small k f) (a n : Int) : Small (k + 1) (subF a n f) := by
  unfold subF
  intro j hj
  have h1 := h j hj
  split
  · omega
  · rename_i hb
    unfold badA at hb
    have h2 := h (a.toNat - 1) (by omega)
    split
    · omega
    · unfold upd
      split <;> omega
theorem Small.clr {k : Nat} {f : Nat → Int} (h : Small k f) (a : Int) : Small (k + 1) (clrF a f) := by
  unfold clrF
  intro j hj
  have h1 := h j hj
  split
  · unfold upd
    split <;> omega
  · omega
theorem Small.ok {k : Nat} {f : Nat → Int} (h : Small k f) (hk : k ≤ 101) : ∀ j, j < 16 → 0 ≤ f j ∧ f j ≤ 140737488355328 := fun j hj => by
  have := h j hj
  omega

theorem addU (b : Nat) (a n : Int) (B : Nat) (w : World) (A : Nat → Addr) (hs : Sent B w A) (st al : Int) (f : Nat → Int) (h : Lim b w st al f) (hb : ∀ j, j < 16 → 0 ≤ f j ∧ f j ≤ 140737488355328) :
    Calls Tryd.prog 11 #[.pointer (some ⟨b, 0, none⟩), .int .i64 a, .int .i64 n] w fun e w' => e = .returned (errV A (addK a n)) ∧ Gro (some b) w w' ∧ Lim b w' st al (addF a n f) := by
  unfold addK addF
  by_cases hbad : badA a n
  · rw [if_pos hbad, if_pos hbad]
    exact (add_out _ a n B w A hs hbad).mono fun e w' ⟨he, hw⟩ => ⟨he, by rw [← hw]; exact Gro.refl _ _, by rw [← hw]; exact h⟩
  · rw [if_neg hbad, if_neg hbad]
    unfold badA at hbad
    exact add_in b a n w st al f h (by omega) (by omega) (by omega) (by omega) (hb _ (by omega)).1 (hb _ (by omega)).2
theorem refAddU (b : Nat) (a n : Int) (w : World) (st al : Int) (f : Nat → Int) (h : Ref b w st al f) (hb : ∀ j, j < 16 → 0 ≤ f j ∧ f j ≤ 140737488355328) :
    Calls Tryd.prog 17 #[.pointer (some ⟨b, 0, none⟩), .int .i64 a, .int .i64 n] w fun e w' => e = .returned (.int .i64 (codeOf (addK a n))) ∧ Gro (some b) w w' ∧ Ref b w' st al (addF a n f) := by
  unfold addK addF
  by_cases hbad : badA a n
  · rw [if_pos hbad, if_pos hbad]
    exact (refAdd_out _ a n w hbad).mono fun e w' ⟨he, hw⟩ => ⟨he, by rw [← hw]; exact Gro.refl _ _, by rw [← hw]; exact h⟩
  · rw [if_neg hbad, if_neg hbad]
    unfold badA at hbad
    exact refAdd_in b a n (a.toNat - 1) w st al f h (by omega) (by omega) (by omega) (by omega) (hb _ (by omega))
theorem subU (b : Nat) (a n : Int) (B : Nat) (w : World) (A : Nat → Addr) (hs : Sent B w A) (st al : Int) (f : Nat → Int) (h : Lim b w st al f) (hb : ∀ j, j < 16 → 0 ≤ f j ∧ f j ≤ 140737488355328) :
    Calls Tryd.prog 14 #[.pointer (some ⟨b, 0, none⟩), .int .i64 a, .int .i64 n] w fun e w' => e = .returned (errV A (subK a n f)) ∧ Gro (some b) w w' ∧ Lim b w' st al (subF a n f) := by
  unfold subK subF
  by_cases hbad : badA a n
  · rw [if_pos hbad, if_pos hbad]
    exact (sub_out _ a n B w A hs hbad).mono fun e w' ⟨he, hw⟩ => ⟨he, by rw [← hw]; exact Gro.refl _ _, by rw [← hw]; exact h⟩
  · rw [if_neg hbad, if_neg hbad]
    unfold badA at hbad
    by_cases hlow : f (a.toNat - 1) < n
    · rw [if_pos hlow, if_pos hlow]
      exact (sub_low b a n B w A hs st al f h (by omega) (by omega) (by omega) (by omega) hlow).mono fun e w' ⟨he, hw⟩ => ⟨he, by rw [← hw]; exact Gro.refl _ _, by rw [← hw]; exact h⟩
    · rw [if_neg hlow, if_neg hlow]
      exact sub_in b a n w st al f h (by omega) (by omega) (by omega) (by omega) (by omega) (hb _ (by omega)).2
theorem refSubU (b : Nat) (a n : Int) (w : World) (st al : Int) (f : Nat → Int) (h : Ref b w st al f) (hb : ∀ j, j < 16 → 0 ≤ f j ∧ f j ≤ 140737488355328) :
    Calls Tryd.prog 18 #[.pointer (some ⟨b, 0, none⟩), .int .i64 a, .int .i64 n] w fun e w' => e = .returned (.int .i64 (codeOf (subK a n f))) ∧ Gro (some b) w w' ∧ Ref b w' st al (subF a n f) := by
  unfold subK subF
  by_cases hbad : badA a n
  · rw [if_pos hbad, if_pos hbad]
    exact (refSub_out _ a n w hbad).mono fun e w' ⟨he, hw⟩ => ⟨he, by rw [← hw]; exact Gro.refl _ _, by rw [← hw]; exact h⟩
  · rw [if_neg hbad, if_neg hbad]
    unfold badA at hbad
    by_cases hlow : f (a.toNat - 1) < n
    · rw [if_pos hlow, if_pos hlow]
      exact (refSub_low b a n (a.toNat - 1) w st al f h (by omega) (by omega) (by omega) (by omega) hlow).mono fun e w' ⟨he, hw⟩ => ⟨he, by rw [← hw]; exact Gro.refl _ _, by rw [← hw]; exact h⟩
    · rw [if_neg hlow, if_neg hlow]
      exact refSub_in b a n (a.toNat - 1) w st al f h (by omega) (by omega) (by omega) (by omega) (by omega) (hb _ (by omega)).2

def mayE (st al : Int) (f : Nat → Int) (k : Nat) : Bool := if 1 ≤ k ∧ k ≤ 16 then mayB st al f (k - 1) else false
def ofE (f : Nat → Int) (k : Nat) : Int := if 1 ≤ k ∧ k ≤ 16 then f (k - 1) else 0
theorem may18 (b k : Nat) (w : World) (st al : Int) (f : Nat → Int) (h : Lim b w st al f) (hb : ∀ j, j < 16 → 0 ≤ f j ∧ f j ≤ 140737488355328) :
    Calls Tryd.prog 10 #[.pointer (some ⟨b, 0, none⟩), .int .i64 k] w fun e w' => e = .returned (.bool (mayE st al f k)) ∧ Gro none w w' := by
  unfold mayE
  split
  · refine (may_in b k w st al f h hb (by omega) (by omega)).mono fun e w' ⟨he, n, hw⟩ => ⟨?_, by rw [hw]; exact (Gro.refl _ _).drewN n⟩
    rw [he]; congr 3
  · exact (may_out _ k w (by omega)).mono fun e w' ⟨he, hw⟩ => ⟨he, by rw [← hw]; exact Gro.refl _ _⟩
theorem refMay18 (b k : Nat) (w : World) (st al : Int) (f : Nat → Int) (h : Ref b w st al f) (hb : ∀ j, j < 16 → 0 ≤ f j ∧ f j ≤ 140737488355328) :
    Calls Tryd.prog 19 #[.pointer (some ⟨b, 0, none⟩), .int .i64 k] w fun e w' => e = .returned (.bool (mayE st al f k)) ∧ Gro none w w' := by
  unfold mayE
  split
  · exact (refMay_in b k (k - 1) w st al f h hb (by omega) (by omega)).mono fun e w' ⟨he, n, hw⟩ => ⟨he, by rw [hw]; exact (Gro.refl _ _).drewN n⟩
  · exact (refMay_out _ k w (by omega)).mono fun e w' ⟨he, n, hw⟩ => ⟨he, by rw [hw]; exact (Gro.refl _ _).drewN n⟩
theorem of18 (b k : Nat) (w : World) (st al : Int) (f : Nat → Int) (h : Lim b w st al f) :
    Calls Tryd.prog 9 #[.pointer (some ⟨b, 0, none⟩), .int .i64 k] w fun e w' => e = .returned (.int .i64 (ofE f k)) ∧ w = w' := by
  unfold ofE
  split
  · exact of_at b k (k - 1) w st al f h (by omega) (by omega)
  · exact of_out _ k w (by omega)

/-! ### The law. -/
/-- Between the two calls of one telling: p: the program was told; q: the document was. -/
structure Tell (W : World) (A : Nat → Addr) (b xb cb db : Nat) (st al : Int) (f f' : Nat → Int) (kd a n : Int) (p q : Bool) (w : World) : Prop where
  lim : Lim b w st al (if p then f' else f)
  ref : Ref xb w st al (if q then f' else f)
  cl : Lim cb w st al f
  d : w.heap[db]? = some (.cells #[.int .i64 kd, .int .i64 a, .int .i64 n] 44 (0, 0))
  far : Far W.heap.size W w
  sent : Sent W.heap.size w A
  ne : W.heap.size ≤ b ∧ b < xb ∧ xb < db ∧ db < cb
section
variable {W : World} {A : Nat → Addr} {b xb cb db : Nat} {st al : Int} {f f' : Nat → Int} {kd a n : Int} {p q : Bool} {w w' : World}
theorem Tell.prog (h : Tell W A b xb cb db st al f f' kd a n false q w) (k : Gro (some b) w w') (hl : Lim b w' st al f') : Tell W A b xb cb db st al f f' kd a n true q w' := by
  have hd : db < w.heap.size := (Array.getElem?_eq_some_iff.1 h.d).1
  exact ⟨hl, h.ref.gro k (by have := h.ne; simp; omega), h.cl.gro k (by have := h.ne; simp; omega), (k.block db hd (by have := h.ne; simp; omega)).trans h.d, h.far.gro k h.far.size (fun g e => by cases e; exact h.ne.1),
    h.sent.far fun i hi => k.block i (by have := h.far.size; omega) (by have := h.ne; simp; omega), h.ne⟩
theorem Tell.docu (h : Tell W A b xb cb db st al f f' kd a n p false w) (k : Gro (some xb) w w') (hl : Ref xb w' st al f') : Tell W A b xb cb db st al f f' kd a n p true w' := by
  have hd : db < w.heap.size := (Array.getElem?_eq_some_iff.1 h.d).1
  exact ⟨h.lim.gro k (by have := h.ne; simp; omega), hl, h.cl.gro k (by have := h.ne; simp; omega), (k.block db hd (by have := h.ne; simp; omega)).trans h.d, h.far.gro k h.far.size (fun g e => by cases e; have := h.ne; omega),
    h.sent.far fun i hi => k.block i (by have := h.far.size; omega) (by have := h.ne; simp; omega), h.ne⟩
theorem Tell.same (h : Tell W A b xb cb db st al f f' kd a n p q w) (k : Gro none w w') : Tell W A b xb cb db st al f f' kd a n p q w' := by
  have hd : db < w.heap.size := (Array.getElem?_eq_some_iff.1 h.d).1
  exact ⟨h.lim.gro k (by simp), h.ref.gro k (by simp), h.cl.gro k (by simp), (k.block db hd (by simp)).trans h.d, h.far.gro k h.far.size (fun g e => by cases e), h.sent.far fun i hi => k.block i (by have := h.far.size; omega) (by simp), h.ne⟩
theorem Tell.c (h : Tell W A b xb cb db st al f f' kd a n p q w) : Tell W A b xb cb db st al f f' kd a n p q w ∧ w.cell? ⟨db, 0, none⟩ = some (.int .i64 kd) ∧ w.cell? ⟨db, 1, none⟩ = some (.int .i64 a) ∧ w.cell? ⟨db, 2, none⟩ = some (.int .i64 n) :=
  ⟨h, by rw [cell_of_row _ _ _ _ _ _ h.d]; rfl, by rw [cell_of_row _ _ _ _ _ _ h.d]; rfl, by rw [cell_of_row _ _ _ _ _ _ h.d]; rfl⟩
end

def PInv (W : World) (A : Nat → Addr) (b xb : Nat) (st al : Int) (len : Nat) (i : Value) (wr : World) : Prop :=
  ∃ (k : Nat) (f : Nat → Int), k ≤ len ∧ i = .int .i64 k ∧ Small k f ∧ Lim b wr st al f ∧ Ref xb wr st al f ∧ Far W.heap.size W wr ∧ Sent W.heap.size wr A ∧ W.heap.size ≤ b ∧ b < xb
/-- Behind a telling. -/
structure Aft (W : World) (A : Nat → Addr) (b xb cb : Nat) (st al : Int) (f f' : Nat → Int) (w : World) : Prop where
  lim : Lim b w st al f'
  ref : Ref xb w st al f'
  cl : Lim cb w st al f
  far : Far W.heap.size W w
  sent : Sent W.heap.size w A
  ne : W.heap.size ≤ b ∧ b < xb
theorem Tell.aft {W : World} {A : Nat → Addr} {b xb cb db : Nat} {st al : Int} {f f' : Nat → Int} {kd a n : Int} {w : World} (h : Tell W A b xb cb db st al f f' kd a n true true w) : Aft W A b xb cb st al f f' w :=
  ⟨h.lim, h.ref, h.cl, h.far, h.sent, ⟨h.ne.1, h.ne.2.1⟩⟩
theorem Aft.same {W : World} {A : Nat → Addr} {b xb cb : Nat} {st al : Int} {f f' : Nat → Int} {w w' : World} (h : Aft W A b xb cb st al f f' w) (k : Gro none w w') : Aft W A b xb cb st al f f' w' :=
  ⟨h.lim.gro k (by simp), h.ref.gro k (by simp), h.cl.gro k (by simp), h.far.gro k h.far.size (fun g e => by cases e), h.sent.far fun i hi => k.block i (by have := h.far.size; omega) (by simp), h.ne⟩
def PInv2 (W : World) (A : Nat → Addr) (b xb cb : Nat) (st al : Int) (f f' : Nat → Int) (i : Value) (wr : World) : Prop :=
  ∃ m : Nat, m ≤ 18 ∧ i = .int .i64 m ∧ Aft W A b xb cb st al f f' wr
theorem ofV (b k : Nat) (w : World) (st al : Int) (f : Nat → Int) (v : Int) (hv : ofE f k = v) (h : Lim b w st al f) :
    Calls Tryd.prog 9 #[.pointer (some ⟨b, 0, none⟩), .int .i64 k] w fun e w' => e = .returned (.int .i64 v) ∧ w = w' := by
  have := of18 b k w st al f h
  rwa [hv] at this
section
variable {W : World} {A : Nat → Addr} {b xb cb db : Nat} {st al : Int} {f : Nat → Int} {kd a n : Int} {p q : Bool} {w : World}
theorem tell_add (h : Tell W A b xb cb db st al f (addF a n f) kd a n false q w) (hb : ∀ j, j < 16 → 0 ≤ f j ∧ f j ≤ 140737488355328) :
    Calls Tryd.prog 11 #[.pointer (some ⟨b, 0, none⟩), .int .i64 a, .int .i64 n] w fun e w' => e = .returned (errV A (addK a n)) ∧ Tell W A b xb cb db st al f (addF a n f) kd a n true q w' :=
  (addU b a n W.heap.size w A h.sent st al f h.lim hb).mono fun _ _ ⟨he, hg, hl⟩ => ⟨he, h.prog hg hl⟩
theorem tell_refAdd (h : Tell W A b xb cb db st al f (addF a n f) kd a n p false w) (hb : ∀ j, j < 16 → 0 ≤ f j ∧ f j ≤ 140737488355328) :
    Calls Tryd.prog 17 #[.pointer (some ⟨xb, 0, none⟩), .int .i64 a, .int .i64 n] w fun e w' => e = .returned (.int .i64 (codeOf (addK a n))) ∧ Tell W A b xb cb db st al f (addF a n f) kd a n p true w' :=
  (refAddU xb a n w st al f h.ref hb).mono fun _ _ ⟨he, hg, hl⟩ => ⟨he, h.docu hg hl⟩
theorem tell_sub (h : Tell W A b xb cb db st al f (subF a n f) kd a n false q w) (hb : ∀ j, j < 16 → 0 ≤ f j ∧ f j ≤ 140737488355328) :
    Calls Tryd.prog 14 #[.pointer (some ⟨b, 0, none⟩), .int .i64 a, .int .i64 n] w fun e w' => e = .returned (errV A (subK a n f)) ∧ Tell W A b xb cb db st al f (subF a n f) kd a n true q w' :=
  (subU b a n W.heap.size w A h.sent st al f h.lim hb).mono fun _ _ ⟨he, hg, hl⟩ => ⟨he, h.prog hg hl⟩
theorem tell_refSub (h : Tell W A b xb cb db st al f (subF a n f) kd a n p false w) (hb : ∀ j, j < 16 → 0 ≤ f j ∧ f j ≤ 140737488355328) :
    Calls Tryd.prog 18 #[.pointer (some ⟨xb, 0, none⟩), .int .i64 a, .int .i64 n] w fun e w' => e = .returned (.int .i64 (codeOf (subK a n f))) ∧ Tell W A b xb cb db st al f (subF a n f) kd a n p true w' :=
  (refSubU xb a n w st al f h.ref hb).mono fun _ _ ⟨he, hg, hl⟩ => ⟨he, h.docu hg hl⟩
theorem addK_lt (a n : Int) : addK a n < 15 := by unfold addK; split <;> decide
theorem subK_lt (a n : Int) (f : Nat → Int) : subK a n f < 15 := by unfold subK; split <;> first | decide | (split <;> decide)
theorem tell_is {f' : Nat → Int} (h : Tell W A b xb cb db st al f f' kd a n p q w) (k : Nat) (hk : k < 15) :
    Calls Tryd.prog 13 #[errV A k, .int .i64 (codeOf k)] w fun e w' => e = .returned (.bool true) ∧ Tell W A b xb cb db st al f f' kd a n p q w' :=
  (is_any W.heap.size w A h.sent h.far.size k hk (codeOf k)).mono fun _ _ ⟨he, hg⟩ => ⟨by rw [he]; simp, h.same hg⟩
end

set_option maxHeartbeats 4000000 in
set_option maxRecDepth 100000 in
theorem plays_any (A : Nat → Addr) (s0 a0 : Int) (p : Option Addr) (len cap : Nat) (kk aa mm : Nat → Int) (W : World) (hs : Sent W.heap.size W A) (hlen : len ≤ 9223372036854775807)
    (hsr : -9223372036854775808 ≤ s0 ∧ s0 ≤ 9223372036854775807) (har : -9223372036854775808 ≤ a0 ∧ a0 ≤ 9223372036854775807)
    (hc : ∀ k, k < len → ∃ lb off, p = some ⟨lb, off, none⟩ ∧ W.cell? ⟨lb, off + k * 3, none⟩ = some (.int .i64 (kk k)) ∧ W.cell? ⟨lb, off + k * 3 + 1, none⟩ = some (.int .i64 (aa k)) ∧ W.cell? ⟨lb, off + k * 3 + 2, none⟩ = some (.int .i64 (mm k)) ∧
      (-9223372036854775808 ≤ aa k ∧ aa k ≤ 9223372036854775807) ∧ (-9223372036854775808 ≤ mm k ∧ mm k ≤ 9223372036854775807)) :
    Calls Tryd.prog 5 #[.int .i64 s0, .int .i64 a0, .slice p len cap] W fun e w' => e = .returned (.bool true) ∧ Far W.heap.size W w' := by
  have HC := Lib.hid hc
  have HS := Lib.hid hs
  clear hc hs
  obtain ⟨hs1, hs2⟩ := hsr
  obtain ⟨ha1, ha2⟩ := har
  by_cases hbad : (s0 < 0 ∨ 1099511627776 < s0) ∨ a0 < 0 ∨ 1099511627776 < a0
  · have HB := Lib.hid hbad
    have h4 : s0 < 0 ∨ (0 ≤ s0 ∧ 1099511627776 < s0) ∨ (0 ≤ s0 ∧ s0 ≤ 1099511627776 ∧ a0 < 0) ∨ (0 ≤ s0 ∧ s0 ≤ 1099511627776 ∧ 0 ≤ a0 ∧ 1099511627776 < a0) := by omega
    clear hbad
    rcases h4 with h1 | ⟨h1, h2⟩ | ⟨h1, h2, h3⟩ | ⟨h1, h2, h3, h4⟩
    all_goals
      go_enter Tryd.func5, Tryd.ntmps5
      go_wp2_with fail
      refine (first_any W).mono ?_
      rintro e w1 ⟨rfl, hg1⟩
      have hS1 : Sent W.heap.size w1 A := HS.out.far fun i hi => hg1.block i (by omega) (by simp)
      go_wp2_with fail
      refine (new_out s0 a0 W.heap.size w1 A hS1 HB.out).mono ?_
      rintro e w2 ⟨rfl, hg2⟩
      have hF2 : Far W.heap.size W w2 := ((Far.refl _ _).gro hg1 (Nat.le_refl _) (fun _ e => by cases e)).gro hg2 hg1.size (fun _ e => by cases e)
      have hS2 := HS.out.far hF2.block
      go_wp2_with fail
      refine (is_any W.heap.size w2 A hS2 hF2.size 3 (by decide) 103).mono ?_
      rintro e w3 ⟨rfl, hg3⟩
      have hc3 : decide (codeOf 3 = 103) = true := by decide
      have hF3 := hF2.gro hg3 hF2.size (fun _ e => by cases e)
      clear hS1 hS2 hF2 hg1 hg2 hg3
      go_wp2_with fail
      go_ret
      exact ⟨rfl, hF3⟩
  · have h1 : 0 ≤ s0 := by omega
    have h2 : s0 ≤ 1099511627776 := by omega
    have h3 : 0 ≤ a0 := by omega
    have h4 : a0 ≤ 1099511627776 := by omega
    clear hbad
    go_enter Tryd.func5, Tryd.ntmps5
    go_wp2_with fail
    refine (first_any W).mono ?_
    rintro e w1 ⟨rfl, hg1⟩
    go_wp2_with fail
    refine (new_in s0 a0 w1 h1 h2 h3 h4).mono ?_
    rintro e w2 ⟨rfl, hg2, hsz2, hL2⟩
    have hF2 : Far W.heap.size W w2 := ((Far.refl _ _).gro hg1 (Nat.le_refl _) (fun _ e => by cases e)).gro hg2 hg1.size (fun _ e => by cases e)
    have hb : W.heap.size ≤ w1.heap.size := hg1.size
    have hb2 : w1.heap.size < w2.heap.size := by omega
    clear hsz2 hg1 hg2
    generalize w1.heap.size = b at *
    by_cases hl : 100 < len
    · go_wp2_with fail
      go_ret
      exact ⟨rfl, hF2⟩
    have hI : PInv W A b w2.heap.size s0 a0 len (.int .i64 0) (w2.alloc (.cells (refO s0 a0 (fun _ => 0)) 42)) :=
      ⟨0, _, Nat.zero_le _, rfl, (fun j hj => ⟨Int.le_refl _, Int.le_refl _⟩), hL2.gro ((Gro.refl none _).alloc _) (by simp), heap_alloc_new _ _, hF2.gro ((Gro.refl none _).alloc _) hF2.size (fun _ e => by cases e),
        HS.out.far (fun i hi => (Below.heap_alloc _ _ _ (by have := hF2.size; omega)).trans (hF2.block i hi)), hb, hb2⟩
    unfold refO at hI
    have HI := Lib.hid hI
    clear hI hL2 hF2 hb hb2
    go_wp2_with fail
    generalize w2.heap.size = xb at *
    go_loopw [11] (fun i wr => PInv W A b xb s0 a0 len i wr) (fun i _ => len - (intOf i).toNat)
    case atStart => exact HI.out
    case round =>
      clear HI
      obtain ⟨k, f, hk, rfl, hsm, hL, hR, hF, hS, hb, hb2⟩ := hrel
      by_cases hlt : k < len
      · obtain ⟨lb, off, rfl, hc0, hc1, hc2, ⟨ra1, ra2⟩, ⟨rm1, rm2⟩⟩ := HC.out k hlt
        have c0 := (hF.cell (block_lt_of_cell hc0)).trans hc0
        have c1 := (hF.cell (block_lt_of_cell hc1)).trans hc1
        have c2 := (hF.cell (block_lt_of_cell hc2)).trans hc2
        clear HC hc0 hc1 hc2
        generalize kk k = kd at *
        generalize aa k = a at *
        generalize mm k = n at *
        have hok := hsm.ok (by omega)
        have k3 : Gro none wr (wr.alloc (.cells #[.int .i64 kd, .int .i64 a, .int .i64 n] 44)) := (Gro.refl _ _).alloc _
        have hL3 := hL.gro k3 (by simp)
        have hR3 := hR.gro k3 (by simp)
        have hF3 := hF.gro k3 hF.size (fun _ e => by cases e)
        have hS3 : Sent W.heap.size (wr.alloc (.cells #[.int .i64 kd, .int .i64 a, .int .i64 n] 44)) A := hS.far fun i hi => k3.block i (by have := hF.size; omega) (by simp)
        have hD3 : (wr.alloc (.cells #[.int .i64 kd, .int .i64 a, .int .i64 n] 44)).heap[wr.heap.size]? = some (.cells #[.int .i64 kd, .int .i64 a, .int .i64 n] 44 (0, 0)) := heap_alloc_new _ _
        have hlt3 : wr.heap.size < (wr.alloc (.cells #[.int .i64 kd, .int .i64 a, .int .i64 n] 44)).heap.size := by simp
        have hx : xb < wr.heap.size := hR.lt
        clear hL hR hF hS k3
        go_wp2_with fail
        generalize wr.alloc (.cells #[.int .i64 kd, .int .i64 a, .int .i64 n] 44) = w3 at *
        generalize wr.heap.size = db at *
        refine (clone_any b w3 s0 a0 f hL3).mono ?_
        rintro e w4 ⟨rfl, hg4, hsz4, hC4⟩
        have T4 : ∀ f', Tell W A b xb w3.heap.size db s0 a0 f f' kd a n false false w4 := fun f' =>
          ⟨hL3.gro hg4 (by simp), hR3.gro hg4 (by simp), hC4, (hg4.block db hlt3 (by simp)).trans hD3, hF3.gro hg4 hF3.size (fun _ e => by cases e), hS3.far fun i hi => hg4.block i (by have := hF3.size; omega) (by simp), ⟨hb, hb2, hx, hlt3⟩⟩
        have hC4' := Lib.hid hC4
        clear hL3 hR3 hF3 hS3 hD3 hg4 hsz4 hC4 c0 c1 c2
        obtain ⟨_, d0, d1, d2⟩ := (T4 f).c
        have hsum := sumTo_bd f 140737488355328 16 hok
        have T4 := Lib.hid T4
        have hok := Lib.hid hok
        go_wp2_with fail
        refine (all_any w3.heap.size w4 s0 a0 f hC4'.out hok.out).mono ?_
        rintro e w' ⟨rfl, rfl⟩
        clear hC4'
        generalize w3.heap.size = cb at *
        refine or4 (show kd = 1 ∨ kd = 2 ∨ ((kd ≠ 1 ∧ kd ≠ 2) ∧ 1 ≤ a ∧ a ≤ 16) ∨ ((kd ≠ 1 ∧ kd ≠ 2) ∧ (a < 1 ∨ 16 < a)) by omega) ?c1 ?c2 ?c3 ?c4
        case' c1 =>
          rintro rfl
          have T0 : Tell W A b xb cb db s0 a0 f (addF a n f) 1 a n false false w4.drew := (T4.out (addF a n f)).same (Gro.refl _ _).drew
          have HL := Lib.hid (fun q W' (h : Tell W A b xb cb db s0 a0 f (addF a n f) 1 a n false q W') => tell_add h hok.out)
          have HR := Lib.hid (fun p W' (h : Tell W A b xb cb db s0 a0 f (addF a n f) 1 a n p false W') => tell_refAdd h hok.out)
          have HE := Lib.hid (fun W' (h : Tell W A b xb cb db s0 a0 f (addF a n f) 1 a n true true W') => tell_is h (addK a n) (addK_lt a n))
          have hsm' := Lib.hid (hsm.add a n)
          generalize errV A (addK a n) = ev at *
          generalize codeOf (addK a n) = ec at *
          generalize hf' : addF a n f = f' at *
          clear hf' d1 d2
          go_wp2_with fail
          go_region_held3 (fun w' => w'.cell? ⟨db, 0, none⟩ = some (.int .i64 1) ∧ w'.cell? ⟨db, 1, none⟩ = some (.int .i64 a) ∧ w'.cell? ⟨db, 2, none⟩ = some (.int .i64 n)) ((exact (Tell.c (by assumption)).2)) (first | (go_at_call 11; refine (HL.out _ _ (by assumption)).mono ?_; rintro e w' ⟨rfl, hT⟩) | (go_at_call 17; refine (HR.out _ _ (by assumption)).mono ?_; rintro e w' ⟨rfl, hT⟩) | (go_at_call 13; refine (HE.out _ (by assumption)).mono ?_; rintro e w' ⟨rfl, hT⟩))
          go_wp2_with fail
        case' c2 =>
          rintro rfl
          have T0 : Tell W A b xb cb db s0 a0 f (subF a n f) 2 a n false false w4.drew := (T4.out (subF a n f)).same (Gro.refl _ _).drew
          have HL := Lib.hid (fun q W' (h : Tell W A b xb cb db s0 a0 f (subF a n f) 2 a n false q W') => tell_sub h hok.out)
          have HR := Lib.hid (fun p W' (h : Tell W A b xb cb db s0 a0 f (subF a n f) 2 a n p false W') => tell_refSub h hok.out)
          have HE := Lib.hid (fun W' (h : Tell W A b xb cb db s0 a0 f (subF a n f) 2 a n true true W') => tell_is h (subK a n f) (subK_lt a n f))
          have hsm' := Lib.hid (hsm.sub a n)
          generalize errV A (subK a n f) = ev at *
          generalize codeOf (subK a n f) = ec at *
          generalize hf' : subF a n f = f' at *
          clear hf' d1 d2
          go_wp2_with fail
          go_region_held3 (fun w' => w'.cell? ⟨db, 0, none⟩ = some (.int .i64 2) ∧ w'.cell? ⟨db, 1, none⟩ = some (.int .i64 a) ∧ w'.cell? ⟨db, 2, none⟩ = some (.int .i64 n)) ((exact (Tell.c (by assumption)).2)) (first | (go_at_call 14; refine (HL.out _ _ (by assumption)).mono ?_; rintro e w' ⟨rfl, hT⟩) | (go_at_call 18; refine (HR.out _ _ (by assumption)).mono ?_; rintro e w' ⟨rfl, hT⟩) | (go_at_call 13; refine (HE.out _ (by assumption)).mono ?_; rintro e w' ⟨rfl, hT⟩))
          go_wp2_with fail
        case' c3 =>
          rintro ⟨⟨hk1, hk2⟩, ha1', ha2'⟩
          have e1 : (kd == 1) = false := by simpa using hk1
          have e2 : (kd == 2) = false := by simpa using hk2
          have hsm' := Lib.hid (hsm.clr a)
          have hfe : clrF a f = upd f (a.toNat - 1) 0 := by unfold clrF; rw [if_pos ⟨ha1', ha2'⟩]
          have T5 := T4.out (clrF a f)
          have hcl := Lib.hid (clear_in b a w4 s0 a0 f T5.lim ha1' ha2')
          rw [← hfe] at hcl
          have hrs : Hid (∀ w', Tell W A b xb cb db s0 a0 f (clrF a f) kd a n true false w' → Tell W A b xb cb db s0 a0 f (clrF a f) kd a n true true (w'.setCell ⟨xb, 2 + a.toNat, none⟩ (.int .i64 0))) := by
            intro w' h
            refine h.docu ((Gro.refl _ _).setCell _ _) ?_
            rw [hfe]
            exact h.ref.set a (a.toNat - 1) (by omega) (by omega) 0
          have hrc : Hid (∀ w', Tell W A b xb cb db s0 a0 f (clrF a f) kd a n true false w' → w'.cell? ⟨xb, 2 + a.toNat, none⟩ = some (.int .i64 (f (a.toNat - 1))) ∧ w'.frozen? ⟨xb, 2 + a.toNat, none⟩ = false) := fun w' h => ⟨h.ref.at a (a.toNat - 1) (by omega) (by omega), h.ref.fr _⟩
          clear hfe hk1 hk2
          generalize hf' : clrF a f = f' at *
          clear hf'
          go_wp2_with fail
          refine hcl.out.mono ?_
          rintro e w5 ⟨rfl, hg5, hl5⟩
          have T6 := T5.prog hg5 hl5
          clear T5 hg5 hl5 hcl d0 d1 d2
          obtain ⟨_, d0, d1, d2⟩ := T6.c
          obtain ⟨r0, r1⟩ := hrc.out w5 T6
          go_wp2_with fail
          go_region
          all_goals (try go_wp2_with fail)
          have hT := (hrs.out w5 T6).same (Gro.refl none _).drew
          clear hrs hrc T6 d0 d1 d2 r0 r1
        case' c4 =>
          rintro ⟨⟨hk1, hk2⟩, ha'⟩
          have e1 : (kd == 1) = false := by simpa using hk1
          have e2 : (kd == 2) = false := by simpa using hk2
          have hsm' : Hid (Small (k + 1) f) := fun j hj => by have := hsm j hj; omega
          have T5 := T4.out f
          have hT : Tell W A b xb cb db s0 a0 f f kd a n true true w4 := ⟨T5.lim, T5.ref, T5.cl, T5.d, T5.far, T5.sent, T5.ne⟩
          have hcl := Lib.hid (clear_out (.pointer (some ⟨b, 0, none⟩)) a w4 ha')
          have ha2 : (decide (1 ≤ a) && decide (a ≤ 16)) = false := by simp; omega
          have ha3 := Lib.hid ha'
          clear hk1 hk2 T5 ha'
          obtain ⟨f', hf'⟩ : ∃ f', f' = f := ⟨f, rfl⟩
          rw [show Tell W A b xb cb db s0 a0 f f kd a n true true w4 = Tell W A b xb cb db s0 a0 f f' kd a n true true w4 by rw [hf']] at hT
          rw [← hf'] at hsm'
          clear hf'
          go_wp2_with fail
          refine hcl.out.mono ?_
          rintro e w5 ⟨rfl, rfl⟩
          rcases ha3.out with ha4 | ha4
          all_goals (go_wp2_with fail)
        all_goals
          have hA : Aft W A b xb cb s0 a0 f f' _ := hT.aft
          clear hT
          have hokf := (hsm'.out).ok (by omega)
          have HOK := Lib.hid hokf
          clear hokf
          go_loopw [15] (fun i wr => PInv2 W A b xb cb s0 a0 f f' i wr) (fun i _ => 18 - (intOf i).toNat)
          case atStart => exact ⟨0, Nat.zero_le _, rfl, hA⟩
          case round =>
            clear hA
            obtain ⟨m, hm, rfl, hA⟩ := hrel
            by_cases hlt2 : m < 18
            · by_cases hin : 1 ≤ m ∧ m ≤ 16
              · have hcm : wr.cell? ⟨xb, 2 + m, none⟩ = some (.int .i64 (f' (m - 1))) := by
                  have := hA.ref.at (m : Int) (m - 1) (by omega) (by omega)
                  simpa using this
                have hv : ofE f' m = f' (m - 1) := by unfold ofE; rw [if_pos hin]
                have HV := Lib.hid hv
                obtain ⟨hi1, hi2⟩ := hin
                clear hv
                go_wp2_with fail
                refine (may18 b m wr s0 a0 f' hA.lim HOK.out).mono ?_
                rintro e w7 ⟨rfl, hg7⟩
                have hA7 := hA.same hg7
                clear hA hg7 hcm
                go_wp2_with fail
                refine (refMay18 xb m w7 s0 a0 f' hA7.ref HOK.out).mono ?_
                rintro e w8 ⟨rfl, hg8⟩
                have hA8 := hA7.same hg8
                clear hA7 hg8
                generalize mayE s0 a0 f' m = r at *
                go_wp2_with fail
                refine (ofV b m w8 s0 a0 f' _ HV.out hA8.lim).mono ?_
                rintro e w' ⟨rfl, rfl⟩
                go_wp2_with fail
                go_roundw
                case rel => exact ⟨m + 1, by omega, by go_num, hA8⟩
                case measure => simp [intOf]; omega
              · have hd : (decide (1 ≤ (m : Int)) && decide ((m : Int) ≤ 16)) = false := by simp; omega
                have hv : ofE f' m = 0 := by unfold ofE; rw [if_neg hin]
                have HV := Lib.hid hv
                have h01 : m = 0 ∨ m = 17 := by omega
                clear hv hin
                rcases h01 with rfl | rfl
                all_goals
                  go_wp2_with fail
                  refine (may18 b _ wr s0 a0 f' hA.lim HOK.out).mono ?_
                  rintro e w7 ⟨rfl, hg7⟩
                  have hA7 := hA.same hg7
                  clear hA hg7
                  go_wp2_with fail
                  refine (refMay18 xb _ w7 s0 a0 f' hA7.ref HOK.out).mono ?_
                  rintro e w8 ⟨rfl, hg8⟩
                  have hA8 := hA7.same hg8
                  clear hA7 hg8
                  generalize mayE s0 a0 f' _ = r at *
                  go_wp2_with fail
                  refine (ofV b _ w8 s0 a0 f' _ HV.out hA8.lim).mono ?_
                  rintro e w' ⟨rfl, rfl⟩
                  go_wp2_with fail
                  go_roundw
                  case rel => first | exact ⟨1, by omega, rfl, hA8⟩ | exact ⟨18, by omega, rfl, hA8⟩
                  case measure => simp [intOf]
            · obtain rfl : m = 18 := by omega
              go_wp2_with fail
              refine (all_any b wr s0 a0 f' hA.lim HOK.out).mono ?_
              rintro e w' ⟨rfl, rfl⟩
              go_wp2_with fail
              refine (refAll_any xb wr s0 a0 f' hA.ref HOK.out).mono ?_
              rintro e w' ⟨rfl, rfl⟩
              go_wp2_with fail
              refine (all_any cb wr s0 a0 f hA.cl hok.out).mono ?_
              rintro e w' ⟨rfl, rfl⟩
              go_wp2_with fail
              go_roundw
              case rel => first | exact ⟨k + 1, f', by omega, by go_num, hsm'.out, hA.lim, hA.ref, hA.far, hA.sent, hA.ne.1, hA.ne.2⟩ | ((repeat apply Exists.intro); exact ⟨⟨k + 1, f', by omega, by go_num, hsm'.out, hA.lim, hA.ref, hA.far, hA.sent, hA.ne.1, hA.ne.2⟩, rfl⟩)
              case measure => simp [intOf]; omega
      · go_wp2_with fail
        go_ret
        exact ⟨rfl, hF⟩
end Go.Proofs.YtcoohlejbeoibaaDoor
