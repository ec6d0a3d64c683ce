/-
  THE CODE's TABLE AND THE DOCUMENT's, TOLD THE SAME: Add and Del leave the same sixteen, and say the same. Conditions: both blocks are whole; the sentinels lie.
-/
import Derived.Test.YtiegcfgedhgpnaaDoorStaInts
namespace Go.Proofs.YtiegcfgedhgpnaaDoor
open Go.RowKit

theorem least_of (p : Nat → Bool) : ∀ n, ∃ m, m ≤ n ∧ (∀ k, k < m → p k = false) ∧ (m < n → p m = true)
  | 0 => ⟨0, Nat.le_refl _, fun _ h => absurd h (by omega), fun h => absurd h (by omega)⟩
  | n + 1 => by
    obtain ⟨m, h1, h2, h3⟩ := least_of p n
    by_cases e : m < n
    · exact ⟨m, by omega, h2, fun _ => h3 e⟩
    · obtain rfl : m = n := by omega
      cases hp : p m with
      | true => exact ⟨m, by omega, h2, fun _ => hp⟩
      | false => exact ⟨m + 1, Nat.le_refl _, fun k hk => by
          rcases (show k < m ∨ k = m by omega) with h | rfl
          · exact h2 k h
          · exact hp, fun h => absurd h (by omega)⟩
/-- How often each number was given: N times at most. -/
def EpN (T : Nat → Sone) (N : Int) : Prop := ∀ j, j < 16 → 0 ≤ (T j).ep ∧ (T j).ep ≤ N
theorem EpN.upd {T : Nat → Sone} {N : Int} (h : EpN T N) (j : Nat) (o : Sone) (h0 : 0 ≤ o.ep) (h1 : o.ep ≤ N + 1) : EpN (updT T j o) (N + 1) := by
  intro i hi
  have := h i hi
  by_cases e : i = j
  · subst e; rw [updT_same]; exact ⟨h0, h1⟩
  · rw [updT_other _ _ _ _ e]; exact ⟨this.1, by omega⟩
theorem EpN.weak {T : Nat → Sone} {N : Int} (h : EpN T N) : EpN T (N + 1) := fun i hi => ⟨(h i hi).1, by have := (h i hi).2; omega⟩
theorem both_add (x : Ad) (h0 : 0 ≤ x.b0) (h1 : x.b0 < 256) (T : Nat → Sone) (N : Int) (hE : EpN T N) (hN : N < 1000000) :
    ∃ (n : Int) (k : Nat) (T' : Nat → Sone), k < 15 ∧ EpN T' (N + 1) ∧
      (∀ b w A B, Sent B w A → B ≤ w.heap.size → Tab b w T → Calls Tryd.prog 10 #[.pointer (some ⟨b, 0, none⟩), adV x] w fun e w' => e = .returned (.tuple #[.int .i64 n, errV A k]) ∧ Gro (some b) w w' ∧ Tab b w' T') ∧
      (∀ b w, DTab b w T → Calls Tryd.prog 16 #[.pointer (some ⟨b, 0, none⟩), adV x] w fun e w' => e = .returned (.tuple #[.int .i64 n, .int .i64 (codeOf k)]) ∧ Gro (some b) w w' ∧ DTab b w' T') := by
  cases hf : fairA x with
  | false =>
    refine ⟨0, 3, T, by decide, hE.weak, fun b w A B hs hB ht => ?_, fun b w ht => ?_⟩
    · refine (add_unfair _ x (errV A 3) w h0 h1 hf hs.c2 (by have := hs.big; omega)).mono fun e w' ⟨he, hg⟩ => ?_
      exact ⟨he, hg.weak, ht.gro hg (by simp)⟩
    · refine (dadd_unfair _ x w h0 h1 hf).mono fun e w' ⟨he, hg⟩ => ?_
      exact ⟨he, hg.weak, ht.gro hg (by simp)⟩
  | true =>
    obtain ⟨m, hm, hno, hyes⟩ := least_of (hitB T x) 16
    by_cases hm16 : m < 16
    · refine ⟨0, 8, T, by decide, hE.weak, fun b w A B hs hB ht => ?_, fun b w ht => ?_⟩
      · refine (add_twice b x (errV A 8) m w T ht h0 h1 hf hm16 hno (hyes hm16) hs.c7 (by have := hs.big; omega)).mono fun e w' ⟨he, hg⟩ => ?_
        exact ⟨he, hg.weak, ht.gro hg (by simp)⟩
      · refine (dadd_twice b x m w T ht h0 h1 hf hm16 hno (hyes hm16)).mono fun e w' ⟨he, hg⟩ => ?_
        exact ⟨he, hg.weak, ht.gro hg (by simp)⟩
    · obtain rfl : m = 16 := by omega
      obtain ⟨j, hj, hbus, hfree⟩ := least_of (fun j => !(T j).th) 16
      by_cases hj16 : j < 16
      · have hfr : (T j).th = false := by simpa using hfree hj16
        have hb : ∀ k, k < j → (T k).th = true := fun k hk => by simpa using hbus k hk
        have he := hE j hj16
        refine ⟨(j : Int) + 1, 0, updT T j ⟨true, x, (T j).ep + 1⟩, by decide, hE.upd j _ (by simp only; omega) (by simp only; omega), fun b w A B hs hB ht => ?_, fun b w ht => ?_⟩
        · exact add_new b x j (T j).ep w T ht h0 h1 hf hno hj16 hb hfr rfl he.1 (by omega)
        · exact dadd_new b x j (T j).ep w T ht h0 h1 hf hno hj16 hb hfr rfl he.1 (by omega)
      · obtain rfl : j = 16 := by omega
        have hb : ∀ k, k < 16 → (T k).th = true := fun k hk => by simpa using hbus k hk
        refine ⟨0, 9, T, by decide, hE.weak, fun b w A B hs hB ht => ?_, fun b w ht => ?_⟩
        · refine (add_full b x (errV A 9) w T ht h0 h1 hf hno hb hs.c8 (by have := hs.big; omega)).mono fun e w' ⟨he, hg⟩ => ?_
          exact ⟨he, hg.weak, ht.gro hg (by simp)⟩
        · refine (dadd_full b x w T ht h0 h1 hf hno hb).mono fun e w' ⟨he, hg⟩ => ?_
          exact ⟨he, hg.weak, ht.gro hg (by simp)⟩
theorem both_del (a : Int) (T : Nat → Sone) (N : Int) (hE : EpN T N) :
    ∃ (k : Nat) (T' : Nat → Sone), k < 15 ∧ EpN T' (N + 1) ∧
      (∀ b w A B, Sent B w A → B ≤ w.heap.size → Tab b w T → Calls Tryd.prog 9 #[.pointer (some ⟨b, 0, none⟩), .int .i64 a] w fun e w' => e = .returned (errV A k) ∧ Gro (some b) w w' ∧ Tab b w' T') ∧
      (∀ b w, DTab b w T → Calls Tryd.prog 17 #[.pointer (some ⟨b, 0, none⟩), .int .i64 a] w fun e w' => e = .returned (.int .i64 (codeOf k)) ∧ Gro (some b) w w' ∧ DTab b w' T') := by
  by_cases ha : 1 ≤ a ∧ a ≤ 16
  · obtain ⟨j, hj, rfl⟩ : ∃ j : Nat, j < 16 ∧ a = j + 1 := ⟨(a - 1).toNat, by omega, by omega⟩
    cases ht : (T j).th with
    | true =>
      have he := hE j hj
      refine ⟨0, updT T j ⟨false, adZ, (T j).ep⟩, by decide, hE.upd j _ he.1 (by simp only; omega), fun b w A B hs hB h => ?_, fun b w h => ?_⟩
      · exact del_there b _ j w T h hj rfl ht
      · exact ddel_there b _ j w T h hj rfl ht
    | false =>
      refine ⟨7, T, by decide, hE.weak, fun b w A B hs hB h => ?_, fun b w h => ?_⟩
      · refine (del_gone b _ j (errV A 7) w T h hj rfl ht hs.c6).mono ?_
        rintro e w' ⟨he, rfl⟩
        exact ⟨he, Gro.refl _ _, h⟩
      · refine (ddel_gone b _ j w T h hj rfl ht).mono fun e w' ⟨he, hg⟩ => ?_
        exact ⟨he, hg.weak, h.gro hg (by simp)⟩
  · refine ⟨7, T, by decide, hE.weak, fun b w A B hs hB h => ?_, fun b w h => ?_⟩
    · refine (del_out _ a (errV A 7) w (by omega) hs.c6).mono ?_
      rintro e w' ⟨he, rfl⟩
      exact ⟨he, Gro.refl _ _, h⟩
    · refine (ddel_out b a w ha).mono fun e w' ⟨he, hg⟩ => ?_
      exact ⟨he, hg.weak, h.gro hg (by simp)⟩
/-- Nobody has the number. -/
theorem addr_none (b : Nat) (a : Int) (w : World) (T : Nat → Sone) (h : Tab b w T) (hn : ∀ j : Nat, j < 16 → a = j + 1 → (T j).th = false) :
    Calls Tryd.prog 11 #[.pointer (some ⟨b, 0, none⟩), .int .i64 a] w fun e w' => e = .returned (.tuple #[adV adZ, .bool false]) ∧ Gro none w w' := by
  have HO : Hid (∀ o : Obj, Calls Tryd.prog 22 #[.pointer (some ⟨b, 0, none⟩), .int .i64 a] (w.alloc o) fun e w' => e = .returned (.pointer none) ∧ (w.alloc o) = w') := by
    intro o
    by_cases ha : 1 ≤ a ∧ a ≤ 16
    · obtain ⟨j, hj, rfl⟩ : ∃ j : Nat, j < 16 ∧ a = j + 1 := ⟨(a - 1).toNat, by omega, by omega⟩
      exact of_gone b _ j _ T (h.alloc o) hj rfl (hn j hj rfl)
    · exact of_out _ a _ (by omega)
  have HO2 : Hid (Calls Tryd.prog 22 #[.pointer (some ⟨b, 0, none⟩), .int .i64 a] w fun e w' => e = .returned (.pointer none) ∧ w = w') := by
    by_cases ha : 1 ≤ a ∧ a ≤ 16
    · obtain ⟨j, hj, rfl⟩ : ∃ j : Nat, j < 16 ∧ a = j + 1 := ⟨(a - 1).toNat, by omega, by omega⟩
      exact of_gone b _ j _ T h hj rfl (hn j hj rfl)
    · exact of_out _ a _ (by omega)
  clear hn h
  go_enter Tryd.func11, Tryd.ntmps11
  go_wp2_with fail
  refine (HO.out _).mono ?_
  rintro e w' ⟨rfl, rfl⟩
  go_wp2_with fail
  go_returns
  exact ⟨rfl, (Gro.refl _ _).alloc _⟩

section
variable {P : Program} {ops : Array Oper} {Q : Exit → Act → World → Prop} {md : Region.Mode} {R : Array Bool → World → Prop}
/-- A call by its contract, once it alone may come up, under whatever relation. -/
theorem takeK {i x ty : Nat} {op : Op} {pos : String} {after : Array Edge} {v : Value} {fuel : Nat} {listed : Array Bool} {a : Act} (f : Nat) (args : Array Value) (hi : ops[i]? = some ⟨some x, op, ty, pos, after, none⟩) (hr : Region.ready md ops listed = [i])
    (hy : ∀ w, (execOp a.eval ⟨some x, op, ty, pos, after, none⟩).run P w = .ok (.enter f args) w) (hc : ∀ w, R listed w → Calls P f args w fun e w' => e = .returned v ∧ R (listed.setIfInBounds i true) w')
    (h : wpAnyS P md ops Q (RW R) fuel (listed.setIfInBounds i true) (a.put (some x) v)) : wpAnyS P md ops Q (RW R) (fuel + 1) listed a :=
  takeO hi hr rfl fun w K hw hK => by
    unfold Oper.wp
    rw [hy w]
    simp only [Oper.upon]
    refine (hc w hw).mono fun e w' ⟨hd, hk⟩ => ?_
    rw [hd]
    exact hK _ _ ⟨hk, h⟩
end
end Go.Proofs.YtiegcfgedhgpnaaDoor
