/-
  PLAIN MATHEMATICS OF AqlBack (no program in sight): what was added station by station, and what is left while it is taken away again. No condition beyond what each theorem states.
-/
import Derived.Test.YtcoohlejbeoibaaDoorAqlLaw
namespace Go.Proofs.YtcoohlejbeoibaaDoor.Aql

/-- The station and the amount of a number. -/
def jj (z : Int) : Nat := (z % 16).toNat
def nn (z : Int) : Int := z.tdiv 16 % 1000
theorem jj_lt (z : Int) : jj z < 16 := by
  have := Int.emod_lt_of_pos z (show (0 : Int) < 16 by decide)
  unfold jj; omega
theorem jj_eq (z : Int) : z % 16 = (jj z : Int) := by
  have := Int.emod_nonneg z (show (16 : Int) ≠ 0 by decide)
  unfold jj; omega
theorem nn_bd (z : Int) : 0 ≤ nn z ∧ nn z ≤ 999 := by
  have h1 := Int.emod_nonneg (z.tdiv 16) (show (1000 : Int) ≠ 0 by decide)
  have h2 := Int.emod_lt_of_pos (z.tdiv 16) (show (0 : Int) < 1000 by decide)
  unfold nn; omega
theorem nn_eq (z : Int) : z.tdiv 16 % 1000 = ((nn z).toNat : Int) := by
  have := (nn_bd z).1
  unfold nn at *; omega

/-- What is under way behind k sends. -/
def sent (zs : Nat → Int) : Nat → Nat → Int
  | 0 => fun _ => 0
  | k + 1 => upd (sent zs k) (jj (zs k)) (sent zs k (jj (zs k)) + nn (zs k))
theorem sent_bd (zs : Nat → Int) (k j : Nat) : 0 ≤ sent zs k j ∧ sent zs k j ≤ 999 * k := by
  induction k with
  | zero => simp [sent]
  | succ k ih =>
    simp only [sent]
    have hn := nn_bd (zs k)
    unfold upd
    split
    · rename_i h; subst h; omega
    · omega
theorem sent_mono1 (zs : Nat → Int) (k j : Nat) : sent zs k j ≤ sent zs (k + 1) j := by
  simp only [sent]
  have hn := nn_bd (zs k)
  unfold upd
  split
  · rename_i h; subst h; omega
  · omega
theorem sent_mono (zs : Nat → Int) (k m j : Nat) (h : k ≤ m) : sent zs k j ≤ sent zs m j := by
  induction m with
  | zero => obtain rfl : k = 0 := by omega
            exact Int.le_refl _
  | succ m ih =>
    by_cases e : k = m + 1
    · subst e; exact Int.le_refl _
    · exact Int.le_trans (ih (by omega)) (sent_mono1 zs m j)
theorem sent_small (zs : Nat → Int) (k : Nat) (hk : k ≤ 50) : ∀ j, j < 16 → 0 ≤ sent zs k j ∧ sent zs k j ≤ 140737488355328 := fun j _ => by
  have := sent_bd zs k j
  omega
theorem sent_sum_bd (zs : Nat → Int) (k : Nat) (hk : k ≤ 50) : 0 ≤ sumTo (sent zs k) 16 ∧ sumTo (sent zs k) 16 ≤ 799200 := by
  have := sumTo_bd (sent zs k) 49950 16 (fun j _ => by have := sent_bd zs k j; omega)
  omega
theorem sent_sum (zs : Nat → Int) (k : Nat) : sumTo (sent zs (k + 1)) 16 = sumTo (sent zs k) 16 + nn (zs k) := by
  simp only [sent]
  rw [sumTo_upd _ _ _ 16 (jj_lt _)]
  omega
theorem sent_same (zs : Nat → Int) (k : Nat) : sent zs (k + 1) (jj (zs k)) = sent zs k (jj (zs k)) + nn (zs k) := by
  simp only [sent]; exact upd_same _ _ _
theorem sent_other (zs : Nat → Int) (k j : Nat) (h : j ≠ jj (zs k)) : sent zs (k + 1) j = sent zs k j := by
  simp only [sent]; exact upd_other _ _ _ _ h

/-- What is left of all but one behind k takings away. -/
def rest (zs : Nat → Int) (n h k : Nat) : Nat → Int := fun j => if j = h then 0 else sent zs n j - sent zs k j
theorem rest_zero (zs : Nat → Int) (n h : Nat) : upd (sent zs n) h 0 = rest zs n h 0 := by
  funext j
  unfold upd rest
  split
  · rfl
  · simp [sent]
theorem rest_mine (zs : Nat → Int) (n h k : Nat) (e : jj (zs k) = h) : rest zs n h (k + 1) = rest zs n h k := by
  funext j
  unfold rest
  split
  · rfl
  · rename_i hj
    rw [sent_other zs k j (by omega)]
theorem rest_other (zs : Nat → Int) (n h k : Nat) (e : jj (zs k) ≠ h) : rest zs n h (k + 1) = upd (rest zs n h k) (jj (zs k)) (rest zs n h k (jj (zs k)) - nn (zs k)) := by
  funext j
  by_cases hj : j = jj (zs k)
  · subst hj
    rw [upd_same]
    unfold rest
    rw [if_neg e, if_neg e, sent_same]
    omega
  · rw [upd_other _ _ _ _ hj]
    unfold rest
    rw [sent_other zs k j hj]
theorem rest_enough (zs : Nat → Int) (n h k : Nat) (hk : k < n) (e : jj (zs k) ≠ h) : nn (zs k) ≤ rest zs n h k (jj (zs k)) := by
  unfold rest
  rw [if_neg e]
  have h1 := sent_mono zs (k + 1) n (jj (zs k)) (by omega)
  have h2 := sent_same zs k
  omega
theorem rest_bd (zs : Nat → Int) (n h k j : Nat) (hn : n ≤ 50) (hk : k ≤ n) : 0 ≤ rest zs n h k j ∧ rest zs n h k j ≤ 49950 := by
  unfold rest
  have h1 := sent_mono zs k n j hk
  have h2 := sent_bd zs n j
  have h3 := sent_bd zs k j
  split <;> omega
theorem rest_small (zs : Nat → Int) (n h k : Nat) (hn : n ≤ 50) (hk : k ≤ n) : ∀ j, j < 16 → 0 ≤ rest zs n h k j ∧ rest zs n h k j ≤ 140737488355328 := fun j _ => by
  have := rest_bd zs n h k j hn hk
  omega
theorem sumTo_zero (f : Nat → Int) (k : Nat) (h : ∀ j, j < k → f j = 0) : sumTo f k = 0 := by
  induction k with
  | zero => rfl
  | succ k ih => simp only [sumTo]; rw [ih (fun j hj => h j (by omega)), h k (by omega)]; rfl
theorem rest_done (zs : Nat → Int) (n h : Nat) : sumTo (rest zs n h n) 16 = 0 := by
  refine sumTo_zero _ _ fun j _ => ?_
  unfold rest
  split
  · rfl
  · omega
theorem rest_sum0 (zs : Nat → Int) (n h : Nat) (hh : h < 16) : sumTo (rest zs n h 0) 16 = sumTo (sent zs n) 16 - sent zs n h := by
  rw [← rest_zero, sumTo_upd _ _ _ 16 hh]
  omega
theorem rest_may (zs : Nat → Int) (n h k : Nat) (st al : Int) : mayB st al (rest zs n h k) h = true := by
  simp [mayB, rest]
end Go.Proofs.YtcoohlejbeoibaaDoor.Aql
