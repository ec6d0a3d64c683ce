/-
  THE WALK OF PsApart: for every list and whichever categories it answers true. Conditions: the list's cells are readable.
-/
import Derived.Test.YtkklnocbbpaipaaDoorPsWalks2
namespace Go.Proofs.YtkklnocbbpaipaaDoor
open Go.RowKit

/-- A block of seventeen bools. -/
def Boo (ab : Nat) (w : World) (S : Nat → Bool) : Prop := ∃ C : Array Value, w.heap[ab]? = some (.cells C 30 (0, 0)) ∧ ∀ k, k < 17 → C[k]? = some (.bool (S k))
def updB (S : Nat → Bool) (j : Nat) (x : Bool) : Nat → Bool := fun i => if i = j + 1 then x else S i
theorem updB_same (S : Nat → Bool) (j : Nat) (x : Bool) : updB S j x (j + 1) = x := by simp [updB]
theorem updB_other (S : Nat → Bool) (j k : Nat) (x : Bool) (h : k ≠ j + 1) : updB S j x k = S k := by simp [updB, h]
section
variable {ab : Nat} {w : World} {S : Nat → Bool}
theorem Boo.cell (h : Boo ab w S) (k : Nat) (hk : k < 17) : w.cell? ⟨ab, k, none⟩ = some (.bool (S k)) := by
  obtain ⟨C, hb, hC⟩ := h
  rw [cell_of_row w ab _ _ _ _ hb]; exact hC k hk
theorem Boo.fr (h : Boo ab w S) (k : Nat) : w.frozen? ⟨ab, k, none⟩ = false := by
  obtain ⟨C, hb, _⟩ := h
  exact frozen_of_row w ab k _ _ hb
theorem Boo.lt (h : Boo ab w S) : ab < w.heap.size := block_lt_of_cell (h.cell 0 (by decide))
theorem Boo.gro {row : Option Nat} {w' : World} (h : Boo ab w S) (k : Gro row w w') (hr : some ab ≠ row) : Boo ab w' S := by
  have hlt := h.lt
  obtain ⟨C, hb, hC⟩ := h
  exact ⟨C, (k.block ab hlt hr).trans hb, hC⟩
theorem Boo.set (h : Boo ab w S) (j : Nat) (hj : j < 16) (x : Bool) : Boo ab (w.setCell ⟨ab, j + 1, none⟩ (.bool x)) (updB S j x) := by
  obtain ⟨C, hb, hC⟩ := h
  refine ⟨C.setIfInBounds (j + 1) (.bool x), heap_setCell_same w ab _ _ _ _ hb, fun k hk => ?_⟩
  have hlt : j + 1 < C.size := (Array.getElem?_eq_some_iff.1 (hC (j + 1) (by omega))).1
  rw [Array.getElem?_setIfInBounds]
  by_cases e2 : j + 1 = k
  · subst e2
    rw [if_pos rfl, if_pos hlt, updB_same]
  · rw [if_neg e2, hC k hk, updB_other _ _ _ _ (fun h => e2 h.symm)]
end

/-- What holds of stations between two tellings: all are there, none has a period open, who is awake did not ask. -/
def OkA (P : Nat → One) (S : Nat → Bool) : Prop := ∀ j, j < 16 → (P j).th = true ∧ (P j).op = false ∧ (P j).sl = S (j + 1) ∧ ((P j).sl = false → (P j).po = false)
theorem OkA.put {P : Nat → One} {S : Nat → Bool} (h : OkA P S) (j : Nat) (o : One) (x : Bool) (ht : o.th = true) (ho : o.op = false) (hs : o.sl = x) (hp : o.sl = false → o.po = false) : OkA (updP P j o) (updB S j x) := by
  intro i hi
  by_cases e : i = j
  · subst e
    rw [updP_same, updB_same]
    exact ⟨ht, ho, hs, hp⟩
  · rw [updP_other _ _ _ _ e, updB_other _ _ _ _ (by omega)]
    exact h i hi
theorem OkA.doze {P : Nat → One} {S : Nat → Bool} (h : OkA P S) (j : Nat) (hj : j < 16) (on : Bool) : OkA (updP P j (dozeO (P j) on)) (updB S j on) := by
  obtain ⟨h1, h2, h3, h4⟩ := h j hj
  unfold dozeO
  by_cases e : (P j).sl = on
  · rw [if_pos e]; exact h.put j _ on h1 h2 e h4
  · rw [if_neg e]; exact h.put j _ on h1 rfl rfl (fun _ => rfl)
theorem OkA.poll {P : Nat → One} {S : Nat → Bool} (h : OkA P S) (j : Nat) (hj : j < 16) (hs : (P j).sl = true) : OkA (updP P j { P j with po := true }) S := by
  obtain ⟨h1, h2, h3, _⟩ := h j hj
  have := h.put j { P j with po := true } (S (j + 1)) h1 h2 h3 (fun e => by simp [hs] at e)
  refine fun i hi => ?_
  have h5 := this i hi
  by_cases e : i = j
  · subst e; rw [updB_same] at h5; exact h5
  · rw [updB_other _ _ _ _ (by omega)] at h5; exact h5

def fresh (u0 u1 u2 u3 : Bool) : One := ⟨true, false, false, false, u0, u1, u2, u3, 3, 0⟩
def fillP (o : One) (m : Nat) : Nat → One := fun j => if j < m then o else One.zero
theorem fillP_succ (o : One) (m : Nat) : updP (fillP o m) m o = fillP o (m + 1) := by
  funext j
  unfold updP fillP
  by_cases e : j = m
  · rw [if_pos e, if_pos (by omega)]
  · rw [if_neg e]
    by_cases e2 : j < m
    · rw [if_pos e2, if_pos (by omega)]
    · rw [if_neg e2, if_neg (by omega)]
theorem fillP_ok (u0 u1 u2 u3 : Bool) : OkA (fillP (fresh u0 u1 u2 u3) 16) (fun _ => false) := by
  intro j hj
  unfold fillP
  rw [if_pos hj]
  exact ⟨rfl, rfl, rfl, fun _ => rfl⟩

def Bx (ub : Nat) (u0 u1 u2 u3 : Bool) (w : World) : Prop := w.heap[ub]? = some (.cells #[.bool u0, .bool u1, .bool u2, .bool u3] 23 (0, 0))
theorem Bx.c {ub : Nat} {u0 u1 u2 u3 : Bool} {w : World} (h : Bx ub u0 u1 u2 u3 w) : w.cell? ⟨ub, 0, none⟩ = some (.bool u0) ∧ w.cell? ⟨ub, 1, none⟩ = some (.bool u1) ∧ w.cell? ⟨ub, 2, none⟩ = some (.bool u2) ∧ w.cell? ⟨ub, 3, none⟩ = some (.bool u3) :=
  ⟨by rw [cell_of_row _ _ _ _ _ _ h]; rfl, by rw [cell_of_row _ _ _ _ _ _ h]; rfl, by rw [cell_of_row _ _ _ _ _ _ h]; rfl, by rw [cell_of_row _ _ _ _ _ _ h]; rfl⟩
theorem Bx.gro {ub : Nat} {u0 u1 u2 u3 : Bool} {w w' : World} {row : Option Nat} (h : Bx ub u0 u1 u2 u3 w) (k : Gro row w w') (hr : some ub ≠ row) : Bx ub u0 u1 u2 u3 w' := (k.block ub (block_lt_of_cell h.c.1) hr).trans h

/-- All that the law holds on to: its box, its stations, its own list of who sleeps. -/
structure All3 (W : World) (ub b ab : Nat) (u0 u1 u2 u3 : Bool) (w : World) (P : Nat → One) (S : Nat → Bool) : Prop where
  bx : Bx ub u0 u1 u2 u3 w
  pow : Pow b w P
  boo : Boo ab w S
  far : Far W.heap.size W w
  ne : W.heap.size ≤ ub ∧ ub < b ∧ b < ab
section
variable {W w w' : World} {ub b ab : Nat} {u0 u1 u2 u3 : Bool} {P P' : Nat → One} {S : Nat → Bool}
theorem All3.put (h : All3 W ub b ab u0 u1 u2 u3 w P S) (k : Gro (some b) w w') (hp : Pow b w' P') : All3 W ub b ab u0 u1 u2 u3 w' P' S :=
  ⟨h.bx.gro k (by have := h.ne; simp; omega), hp, h.boo.gro k (by have := h.ne; simp; omega), h.far.gro k h.far.size (fun g e => by cases e; have := h.ne; omega), h.ne⟩
theorem All3.same (h : All3 W ub b ab u0 u1 u2 u3 w P S) (k : Gro none w w') : All3 W ub b ab u0 u1 u2 u3 w' P S :=
  ⟨h.bx.gro k (by simp), h.pow.gro k (by simp), h.boo.gro k (by simp), h.far.gro k h.far.size (fun g e => by cases e), h.ne⟩
theorem All3.mark (h : All3 W ub b ab u0 u1 u2 u3 w P S) (j : Nat) (hj : j < 16) (x : Bool) : All3 W ub b ab u0 u1 u2 u3 (w.setCell ⟨ab, j + 1, none⟩ (.bool x)) P (updB S j x) := by
  have k : Gro (some ab) w (w.setCell ⟨ab, j + 1, none⟩ (.bool x)) := (Gro.refl _ _).setCell _ _
  exact ⟨h.bx.gro k (by have := h.ne; simp; omega), h.pow.gro k (by have := h.ne; simp; omega), h.boo.set j hj x, h.far.gro k h.far.size (fun g e => by cases e; have := h.ne; omega), h.ne⟩
end

def AInv1 (W : World) (ub b ab : Nat) (u0 u1 u2 u3 : Bool) (i : Value) (wr : World) : Prop :=
  ∃ m : Nat, m ≤ 16 ∧ i = .int .i64 (m + 1) ∧ All3 W ub b ab u0 u1 u2 u3 wr (fillP (fresh u0 u1 u2 u3) m) (fun _ => false)
def AInv2 (W : World) (ub b ab : Nat) (u0 u1 u2 u3 : Bool) (len : Nat) (i : Value) (wr : World) : Prop :=
  ∃ (k : Nat) (P : Nat → One) (S : Nat → Bool), k ≤ len ∧ i = .int .i64 k ∧ All3 W ub b ab u0 u1 u2 u3 wr P S ∧ OkA P S
def AInv3 (W : World) (ub b ab : Nat) (u0 u1 u2 u3 : Bool) (P : Nat → One) (S : Nat → Bool) (i : Value) (wr : World) : Prop :=
  ∃ m : Nat, m ≤ 16 ∧ i = .int .i64 (m + 1) ∧ All3 W ub b ab u0 u1 u2 u3 wr P S

/-- Poll, of whoever is there: what is left is as it should be. -/
def PollPost (b : Nat) (w : World) (S : Nat → Bool) (e : Ending) (w' : World) : Prop := ∃ (P' : Nat → One) (v : Value), e = .returned v ∧ Gro (some b) w w' ∧ Pow b w' P' ∧ OkA P' S
theorem pollB (b : Nat) (a : Int) (v : Value) (j : Nat) (w : World) (P : Nat → One) (S : Nat → Bool) (h : Pow b w P) (hO : OkA P S) (hj : j < 16) (ha : a = j + 1) (hv : w.cell? ⟨3, 0, none⟩ = some v) :
    Calls Tryd.prog 11 #[.pointer (some ⟨b, 0, none⟩), .int .i64 a] w (PollPost b w S) := by
  obtain ⟨h1, h2, h3, h4⟩ := hO j hj
  by_cases hs : (P j).sl = true
  · exact (poll_there b a j w P h hj ha h1 hs h2).mono fun e w' ⟨he, hg, hp⟩ => ⟨_, _, he, hg, hp, hO.poll j hj hs⟩
  · exact (poll_state b a v j w P h hj ha h1 (Or.inl (by simpa using hs)) hv).mono fun e w' ⟨he, hw⟩ => ⟨_, _, he, by rw [← hw]; exact Gro.refl _ _, by rw [← hw]; exact h, hO⟩
theorem or4 {p q r s g : Prop} (h : p ∨ q ∨ r ∨ s) (a : p → g) (b : q → g) (c : r → g) (d : s → g) : g := by
  rcases h with h | h | h | h
  · exact a h
  · exact b h
  · exact c h
  · exact d h

set_option maxHeartbeats 4000000 in
set_option maxRecDepth 100000 in
theorem apart_any (p : Option Addr) (len cap : Nat) (zs : Nat → Int) (u0 u1 u2 u3 : Bool) (W : World) (v : Value) (hv : W.cell? ⟨3, 0, none⟩ = some v) (hlen : len ≤ 9223372036854775807)
    (hc : ∀ k, k < len → ∃ lb off, p = some ⟨lb, off, none⟩ ∧ W.cell? ⟨lb, off + k, none⟩ = some (.int .i64 (zs k)) ∧ -9223372036854775808 ≤ zs k ∧ zs k ≤ 9223372036854775807) :
    Calls Tryd.prog 3 #[.slice p len cap, .agg #[.bool u0, .bool u1, .bool u2, .bool u3]] W fun e w' => e = .returned (.bool true) ∧ Far W.heap.size W w' := by
  have HC := Lib.hid hc
  have HV := Lib.hid hv
  clear hc hv
  have hg0 : Gro none W (W.alloc (.cells #[.bool u0, .bool u1, .bool u2, .bool u3] 23)) := (Gro.refl _ _).alloc _
  have hx0 : Bx W.heap.size u0 u1 u2 u3 (W.alloc (.cells #[.bool u0, .bool u1, .bool u2, .bool u3] 23)) := heap_alloc_new _ _
  have hfst := Lib.hid (first_any (W.alloc (.cells #[.bool u0, .bool u1, .bool u2, .bool u3] 23)))
  have hsz0 : Hid ((W.alloc (.cells #[.bool u0, .bool u1, .bool u2, .bool u3] 23)).heap.size = W.heap.size + 1) := by simp [Hid]
  go_enter Tryd.func3, Tryd.ntmps3
  go_wp2_with fail
  generalize W.alloc (.cells #[.bool u0, .bool u1, .bool u2, .bool u3] 23) = W0 at *
  refine hfst.out.mono ?_
  rintro e w1 ⟨rfl, hg1⟩
  have hx1 := hx0.gro hg1 (by simp)
  have hF1 : Far W.heap.size W w1 := ((Far.refl _ _).gro hg0 (Nat.le_refl _) (fun _ e => by cases e)).gro hg1 hg0.size (fun _ e => by cases e)
  have hs1 : W.heap.size < w1.heap.size := by have := hg1.size; have := hsz0.out; omega
  clear hfst hg0 hx0 hg1 hsz0
  by_cases hl : 40 < len
  · go_wp2_with fail
    go_ret
    exact ⟨rfl, hF1⟩
  go_wp2_with (refine wpList_alloc_as rfl 29 rfl powZ (alloc_run _) ?_)
  have hA2 : All3 W W.heap.size w1.heap.size (w1.heap.size + 1) u0 u1 u2 u3 ((w1.alloc powZ).alloc (.cells #[.bool false, .bool false, .bool false, .bool false, .bool false, .bool false, .bool false, .bool false, .bool false, .bool false, .bool false, .bool false, .bool false, .bool false, .bool false, .bool false, .bool false] 30)) (fillP (fresh u0 u1 u2 u3) 0) (fun _ => false) := by
    have k : Gro none w1 ((w1.alloc powZ).alloc (.cells #[.bool false, .bool false, .bool false, .bool false, .bool false, .bool false, .bool false, .bool false, .bool false, .bool false, .bool false, .bool false, .bool false, .bool false, .bool false, .bool false, .bool false] 30)) := ((Gro.refl _ _).alloc _).alloc _
    refine ⟨hx1.gro k (by simp), (pow_new w1).alloc _, ⟨_, by simpa using heap_alloc_new (w1.alloc powZ) _, fun k hk => ?_⟩, hF1.gro k hF1.size (fun _ e => by cases e), ⟨Nat.le_refl _, hs1, by omega⟩⟩
    rcases (show k = 16 ∨ k < 16 from by omega) with rfl | hk
    · rfl
    · exact all16 (P := fun k => (#[.bool false, .bool false, .bool false, .bool false, .bool false, .bool false, .bool false, .bool false, .bool false, .bool false, .bool false, .bool false, .bool false, .bool false, .bool false, .bool false, .bool false] : Array Value)[k]? = some (.bool false)) rfl rfl rfl rfl rfl rfl rfl rfl rfl rfl rfl rfl rfl rfl rfl rfl k hk
  clear hF1 hx1
  generalize (w1.alloc powZ).alloc _ = w2 at *
  generalize hub : W.heap.size = ub at hA2 ⊢
  generalize w1.heap.size + 1 = ab at *
  generalize w1.heap.size = b at *
  go_loopw [8] (fun i wr => AInv1 W ub b ab u0 u1 u2 u3 i wr) (fun i _ => 17 - (intOf i).toNat)
  case atStart => exact ⟨0, Nat.zero_le _, rfl, hA2⟩
  case round =>
    clear hA2
    obtain ⟨m, hm, rfl, hA⟩ := hrel
    by_cases hlt : m < 16
    · have hz : (fillP (fresh u0 u1 u2 u3) m m).th = false := by simp [fillP, One.zero]
      obtain ⟨x0, x1, x2, x3⟩ := hA.bx.c
      go_wp2_with fail
      refine (add_in b _ 3 u0 u1 u2 u3 m wr _ hA.pow hlt rfl hz (by decide) (by decide)).mono ?_
      rintro e w3 ⟨rfl, hg3, hP3⟩
      have hA3 := hA.put hg3 hP3
      have hf : Hid (updP (fillP (fresh u0 u1 u2 u3) m) m ⟨true, false, false, false, u0, u1, u2, u3, 3, 0⟩ = fillP (fresh u0 u1 u2 u3) (m + 1)) := fillP_succ _ _
      rw [hf.out] at hA3
      clear hA hg3 hP3 x0 x1 x2 x3 hz
      go_wp2_with fail
      go_roundw
      case rel => exact ⟨m + 1, by omega, by go_num, hA3⟩
      case measure => simp [intOf]; omega
    · obtain rfl : m = 16 := by omega
      go_wp2_with fail
      go_loopw [9] (fun i wr => AInv2 W ub b ab u0 u1 u2 u3 len i wr) (fun i _ => len - (intOf i).toNat)
      case atStart => exact ⟨0, _, _, Nat.zero_le _, rfl, hA, fillP_ok _ _ _ _⟩
      case round =>
        clear hA
        obtain ⟨k, P, S, hk, rfl, hA, hO⟩ := hrel
        by_cases hlt : k < len
        · obtain ⟨lb, off, rfl, hcW, hz1, hz2⟩ := HC.out k hlt
          have hcell : wr.cell? ⟨lb, off + k, none⟩ = some (.int .i64 (zs k)) := (hA.far.cell (block_lt_of_cell hcW)).trans hcW
          clear HC hcW
          generalize zs k = z at *
          obtain ⟨j, hj⟩ := Int.eq_ofNat_of_zero_le (Int.emod_nonneg z (show (16 : Int) ≠ 0 by decide))
          have hj16 : j < 16 := by have := Int.emod_lt_of_pos z (show (0 : Int) < 16 by decide); omega
          have hd : (z.tdiv 16 % 4 = 0) ∨ (z.tdiv 16 % 4 = 1) ∨ (z.tdiv 16 % 4 = 2) ∨ (z.tdiv 16 % 4 = 3) := by
            have h1 := Int.emod_nonneg (z.tdiv 16) (show (4 : Int) ≠ 0 by decide)
            have h2 := Int.emod_lt_of_pos (z.tdiv 16) (show (0 : Int) < 4 by decide)
            omega
          have HJ := Lib.hid hj
          clear hj
          have HD := Lib.hid hd
          clear hd
          go_wp2_with fail
          refine (number_val z 16 j wr HJ.out (by decide) (by decide)).mono ?_
          rintro e w' ⟨rfl, rfl⟩
          go_wp2_with fail
          refine or4 HD.out ?c0 ?c1 ?c2 ?c3
          case' c0 =>
            intro hd
            refine (number_val (z.tdiv 16) 4 0 wr hd (by decide) (by decide)).mono ?_
            rintro e w' ⟨rfl, rfl⟩
            clear hd HD
            go_wp2_with fail
            refine (doze_there b _ true j wr P hA.pow hj16 rfl (hO j hj16).1).mono ?_
            rintro e w3 ⟨rfl, hg3, hP3⟩
            have hA3 := hA.put hg3 hP3
            have hA5 := Lib.hid (hA3.mark j hj16 true)
            have hO5 := Lib.hid (hO.doze j hj16 true)
            have hcb := hA3.boo.cell (j + 1) (by omega)
            have hfb := hA3.boo.fr
            clear hg3 hP3 hA3 hA hO
            go_wp2_with fail
            have hA6 := hA5.out
            have hO6 := hO5.out
            clear hA5 hO5 hcb hfb
          case' c1 =>
            intro hd
            refine (number_val (z.tdiv 16) 4 1 wr hd (by decide) (by decide)).mono ?_
            rintro e w' ⟨rfl, rfl⟩
            clear hd HD
            go_wp2_with fail
            refine (doze_there b _ false j wr P hA.pow hj16 rfl (hO j hj16).1).mono ?_
            rintro e w3 ⟨rfl, hg3, hP3⟩
            have hA3 := hA.put hg3 hP3
            have hA5 := Lib.hid (hA3.mark j hj16 false)
            have hO5 := Lib.hid (hO.doze j hj16 false)
            have hcb := hA3.boo.cell (j + 1) (by omega)
            have hfb := hA3.boo.fr
            clear hg3 hP3 hA3 hA hO
            go_wp2_with fail
            have hA6 := hA5.out
            have hO6 := hO5.out
            clear hA5 hO5 hcb hfb
          case' c2 =>
            intro hd
            refine (number_val (z.tdiv 16) 4 2 wr hd (by decide) (by decide)).mono ?_
            rintro e w' ⟨rfl, rfl⟩
            clear hd HD
            go_wp2_with fail
            refine (pollB b _ v j wr P S hA.pow hO hj16 rfl ((hA.far.cell (block_lt_of_cell HV.out)).trans HV.out)).mono ?_
            rintro e w3 ⟨P5, v', rfl, hg3, hP3, hO6⟩
            have hA6 := hA.put hg3 hP3
            clear hg3 hP3 hA hO
            go_wp2_with fail
          case' c3 =>
            intro hd
            refine (number_val (z.tdiv 16) 4 3 wr hd (by decide) (by decide)).mono ?_
            rintro e w' ⟨rfl, rfl⟩
            clear hd HD
            go_wp2_with fail
            refine (del_there b _ j wr P hA.pow hj16 rfl (hO j hj16).1).mono ?_
            rintro e w3 ⟨rfl, hg3, hP3⟩
            have hA3 := hA.put hg3 hP3
            have hgn : Gone (updP P j One.zero) ((j : Int) + 1) := Or.inr ⟨j, hj16, rfl, by rw [updP_same]; rfl⟩
            go_wp2_with fail
            refine (may_nil b _ 0 w3 _ hA3.pow hgn).mono ?_
            rintro e w' ⟨rfl, rfl⟩
            go_wp2_with fail
            refine (asleep_nil b _ w3 _ hA3.pow hgn).mono ?_
            rintro e w' ⟨rfl, rfl⟩
            obtain ⟨x0, x1, x2, x3⟩ := hA3.bx.c
            go_wp2_with fail
            refine (add_in b _ 3 u0 u1 u2 u3 j w3 _ hA3.pow hj16 rfl (by rw [updP_same]; rfl) (by decide) (by decide)).mono ?_
            rintro e w4 ⟨rfl, hg4, hP4⟩
            rw [updP_updP] at hP4
            have hA4 := hA3.put hg4 hP4
            have hA5 := Lib.hid (hA4.mark j hj16 false)
            have hO5 := Lib.hid (hO.put j (fresh u0 u1 u2 u3) false rfl rfl rfl (fun _ => rfl))
            have hcb := hA4.boo.cell (j + 1) (by omega)
            have hfb := hA4.boo.fr
            clear hg3 hP3 hA3 hA hO x0 x1 x2 x3 hg4 hP4 hA4 hgn
            go_wp2_with fail
            have hA6 := hA5.out
            have hO6 := hO5.out
            clear hA5 hO5 hcb hfb
          all_goals
            have hX : ∃ P6 S6, All3 W ub b ab u0 u1 u2 u3 _ P6 S6 ∧ OkA P6 S6 := ⟨_, _, hA6, hO6⟩
            clear hA6 hO6
            obtain ⟨P6, S6, hA7, hO7⟩ := hX
            go_loopw [11] (fun i wr => AInv3 W ub b ab u0 u1 u2 u3 P6 S6 i wr) (fun i _ => 17 - (intOf i).toNat)
            case atStart => exact ⟨0, Nat.zero_le _, rfl, hA7⟩
            case round =>
              clear hA7
              obtain ⟨m, hm, rfl, hA⟩ := hrel
              by_cases hlt2 : m < 16
              · obtain ⟨o1, o2, o3, o4⟩ := hO7 m hlt2
                have hcb := hA.boo.cell (m + 1) (by omega)
                by_cases hs : (P6 m).sl = true
                · have HA : Hid (∀ n, Calls Tryd.prog 14 #[.pointer (some ⟨b, 0, none⟩), .int .i64 ((m : Int) + 1)] (wr.drewN n) fun e w' => e = .returned (.bool true) ∧ w' = wr.drewN n) := fun n =>
                    (asleep_there b _ m _ P6 (hA.pow.drewN n) hlt2 rfl o1).mono fun e w' ⟨he, hw⟩ => ⟨by rw [he, hs], hw.symm⟩
                  have HM : Hid (∀ n, Calls Tryd.prog 13 #[.pointer (some ⟨b, 0, none⟩), .int .i64 ((m : Int) + 1), .int .i64 2] (wr.drewN n) fun e w' => e = .returned (.bool (P6 m).po) ∧ w' = wr.drewN n) := fun n =>
                    (may_there b _ 2 m _ P6 (hA.pow.drewN n) hlt2 rfl o1 (by decide) (by decide)).mono fun e w' ⟨he, hw⟩ => ⟨by rw [he]; simp [mayO, hs, o2], hw.symm⟩
                  have HP : Hid (∀ n, Calls Tryd.prog 15 #[.pointer (some ⟨b, 0, none⟩), .int .i64 ((m : Int) + 1)] (wr.drewN n) fun e w' => e = .returned (.bool (P6 m).po) ∧ w' = wr.drewN n) := fun n =>
                    (polled_there b _ m _ P6 (hA.pow.drewN n) hlt2 rfl o1).mono fun e w' ⟨he, hw⟩ => ⟨he, hw.symm⟩
                  rw [← o3, hs] at hcb
                  have hG : Hid (∀ n, All3 W ub b ab u0 u1 u2 u3 (wr.drewN n) P6 S6) := fun n => hA.same ((Gro.refl _ _).drewN n)
                  clear hA o1 o2 o3 o4 hs
                  generalize (P6 m).po = r at *
                  go_wp2_with fail
                  go_quiet ((first | (go_at_call 14; exact Calls.quiet_of_same (HA.out _)) | (go_at_call 13; exact Calls.quiet_of_same (HM.out _)) | (go_at_call 15; exact Calls.quiet_of_same (HP.out _))))
                  go_wp2_with fail
                  go_roundw
                  case rel => exact ⟨m + 1, by omega, by go_num, hG.out _⟩
                  case measure => simp [intOf]; omega
                · have hs' : (P6 m).sl = false := by simpa using hs
                  have HA : Hid (∀ n, Calls Tryd.prog 14 #[.pointer (some ⟨b, 0, none⟩), .int .i64 ((m : Int) + 1)] (wr.drewN n) fun e w' => e = .returned (.bool false) ∧ w' = wr.drewN n) := fun n =>
                    (asleep_there b _ m _ P6 (hA.pow.drewN n) hlt2 rfl o1).mono fun e w' ⟨he, hw⟩ => ⟨by rw [he, hs'], hw.symm⟩
                  have HM : Hid (∀ n, Calls Tryd.prog 13 #[.pointer (some ⟨b, 0, none⟩), .int .i64 ((m : Int) + 1), .int .i64 3] (wr.drewN n) fun e w' => e = .returned (.bool true) ∧ w' = wr.drewN n) := fun n =>
                    (may_there b _ 3 m _ P6 (hA.pow.drewN n) hlt2 rfl o1 (by decide) (by decide)).mono fun e w' ⟨he, hw⟩ => ⟨by rw [he]; simp [mayO, hs'], hw.symm⟩
                  have HP : Hid (∀ n, Calls Tryd.prog 15 #[.pointer (some ⟨b, 0, none⟩), .int .i64 ((m : Int) + 1)] (wr.drewN n) fun e w' => e = .returned (.bool false) ∧ w' = wr.drewN n) := fun n =>
                    (polled_there b _ m _ P6 (hA.pow.drewN n) hlt2 rfl o1).mono fun e w' ⟨he, hw⟩ => ⟨by rw [he, o4 hs'], hw.symm⟩
                  rw [← o3, hs'] at hcb
                  have hG : Hid (∀ n, All3 W ub b ab u0 u1 u2 u3 (wr.drewN n) P6 S6) := fun n => hA.same ((Gro.refl _ _).drewN n)
                  clear hA o1 o2 o3 o4 hs hs'
                  go_wp2_with fail
                  go_quiet ((first | (go_at_call 14; exact Calls.quiet_of_same (HA.out _)) | (go_at_call 13; exact Calls.quiet_of_same (HM.out _)) | (go_at_call 15; exact Calls.quiet_of_same (HP.out _))))
                  go_wp2_with fail
                  go_roundw
                  case rel => exact ⟨m + 1, by omega, by go_num, hG.out _⟩
                  case measure => simp [intOf]; omega
              · obtain rfl : m = 16 := by omega
                go_wp2_with fail
                go_roundw
                case rel => first | exact ⟨k + 1, P6, S6, by omega, by go_num, hA, hO7⟩ | ((repeat apply Exists.intro); exact ⟨⟨k + 1, P6, S6, by omega, by go_num, hA, hO7⟩, rfl⟩)
                case measure => simp [intOf]; omega
        · go_wp2_with fail
          go_ret
          exact ⟨rfl, hub ▸ hA.far⟩
end Go.Proofs.YtkklnocbbpaipaaDoor
