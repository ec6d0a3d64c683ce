/-
  PLAIN MATHEMATICS OF A LIMIT (no program in sight): sixteen numbers, their sum, one of them turned. No condition beyond what each theorem states.
-/
import Derived.Lib.Hide
namespace Go.Proofs.YtcoohlejbeoibaaDoor.Aql

/-- The sum of the first k. -/
def sumTo (f : Nat → Int) : Nat → Int
  | 0 => 0
  | k + 1 => sumTo f k + f k
/-- One number turned. -/
def upd (f : Nat → Int) (i : Nat) (v : Int) : Nat → Int := fun j => if j = i then v else f j

theorem upd_same (f : Nat → Int) (i : Nat) (v : Int) : upd f i v i = v := by simp [upd]
theorem upd_other (f : Nat → Int) (i j : Nat) (v : Int) (h : j ≠ i) : upd f i v j = f j := by simp [upd, h]

theorem sumTo_congr (f g : Nat → Int) (k : Nat) (h : ∀ j, j < k → f j = g j) : sumTo f k = sumTo g k := by
  induction k with
  | zero => rfl
  | succ k ih => simp only [sumTo]; rw [ih (fun j hj => h j (by omega)), h k (by omega)]
theorem sumTo_upd (f : Nat → Int) (i : Nat) (v : Int) (k : Nat) (h : i < k) : sumTo (upd f i v) k = sumTo f k - f i + v := by
  induction k with
  | zero => omega
  | succ k ih =>
    simp only [sumTo]
    by_cases hi : i = k
    · subst hi
      rw [upd_same, sumTo_congr (upd f i v) f i (fun j hj => upd_other f i j v (by omega))]
      omega
    · rw [ih (by omega), upd_other f i k v (by omega)]
      omega
theorem sumTo_bd (f : Nat → Int) (m : Int) (k : Nat) (h : ∀ j, j < k → 0 ≤ f j ∧ f j ≤ m) : 0 ≤ sumTo f k ∧ sumTo f k ≤ k * m := by
  induction k with
  | zero => simp [sumTo]
  | succ k ih =>
    have h1 := ih (fun j hj => h j (by omega))
    have h2 := h k (by omega)
    simp only [sumTo]
    refine ⟨by omega, ?_⟩
    have : ((k + 1 : Nat) : Int) * m = (k : Int) * m + m := by rw [Int.natCast_add, Int.add_mul]; simp
    omega

/-- How many are not none. -/
def count (f : Nat → Int) : Nat → Int
  | 0 => 0
  | k + 1 => count f k + (if f k = 0 then 0 else 1)
theorem count_bd (f : Nat → Int) (k : Nat) : 0 ≤ count f k ∧ count f k ≤ k := by
  induction k with
  | zero => simp [count]
  | succ k ih => simp only [count]; split <;> omega
theorem count_congr (f g : Nat → Int) (k : Nat) (h : ∀ j, j < k → f j = g j) : count f k = count g k := by
  induction k with
  | zero => rfl
  | succ k ih => simp only [count]; rw [ih (fun j hj => h j (by omega)), h k (by omega)]
theorem count_upd (f : Nat → Int) (i : Nat) (v : Int) (k : Nat) (h : i < k) :
    count (upd f i v) k = count f k - (if f i = 0 then 0 else 1) + (if v = 0 then 0 else 1) := by
  induction k with
  | zero => omega
  | succ k ih =>
    simp only [count]
    by_cases hi : i = k
    · subst hi
      rw [upd_same, count_congr (upd f i v) f i (fun j hj => upd_other f i j v (by omega))]
      omega
    · rw [ih (by omega), upd_other f i k v (by omega)]
      omega
theorem count_pos (f : Nat → Int) (i k : Nat) (h : i < k) (hf : f i ≠ 0) : 1 ≤ count f k := by
  induction k with
  | zero => omega
  | succ k ih =>
    simp only [count]
    have hb := count_bd f k
    by_cases hi : i = k
    · subst hi; rw [if_neg hf]; omega
    · have := ih (by omega); split <;> omega

/-- May more be under way of station i? -/
def mayB (st al : Int) (f : Nat → Int) (i : Nat) : Bool := decide (f i = 0) || (decide (f i < st) && decide (sumTo f 16 < al))

/-- WHAT STAYS TRUE WHILE EACH ASKS AHEAD: every number lies between 0 and its bound, all together under the bound and one for each that has something. -/
structure Fine (st al : Int) (f : Nat → Int) : Prop where
  each : ∀ j, j < 16 → 0 ≤ f j ∧ f j ≤ max st 1 + 999
  all : sumTo f 16 ≤ al + 999 * count f 16
theorem Fine.zero (st al : Int) (h0 : 0 ≤ st) (h1 : 0 ≤ al) : Fine st al (fun _ => 0) := by
  have hs : ∀ k, sumTo (fun _ => 0) k = 0 := fun k => by induction k with
    | zero => rfl
    | succ k ih => simp [sumTo, ih]
  have hc := count_bd (fun _ => 0) 16
  exact ⟨fun j _ => ⟨Int.le_refl _, by omega⟩, by rw [hs]; omega⟩
theorem Fine.add {st al : Int} {f : Nat → Int} (h : Fine st al f) (i : Nat) (hi : i < 16) (n : Int) (hn0 : 0 ≤ n) (hn : n ≤ 999) (hm : mayB st al f i = true) : Fine st al (upd f i (f i + n)) := by
  have he := h.each i hi
  have ha := h.all
  have hcb := count_bd f 16
  have hcu := count_upd f i (f i + n) 16 hi
  have hsu := sumTo_upd f i (f i + n) 16 hi
  simp only [mayB, Bool.or_eq_true, Bool.and_eq_true, decide_eq_true_eq] at hm
  refine ⟨fun j hj => ?_, ?_⟩
  · by_cases hji : j = i
    · subst hji; rw [upd_same]; omega
    · rw [upd_other f i j _ hji]; exact h.each j hj
  · rw [hsu, hcu]
    rcases hm with h0 | ⟨_, h2⟩
    · rw [if_pos h0, h0]
      split <;> omega
    · by_cases h0 : f i = 0
      · rw [if_pos h0, h0]
        split <;> omega
      · rw [if_neg h0]
        have := count_pos f i 16 hi h0
        split <;> omega
theorem Fine.top {st al : Int} {f : Nat → Int} (h : Fine st al f) : sumTo f 16 ≤ al + 16000 := by
  have := count_bd f 16
  have := h.all
  omega
end Go.Proofs.YtcoohlejbeoibaaDoor.Aql
