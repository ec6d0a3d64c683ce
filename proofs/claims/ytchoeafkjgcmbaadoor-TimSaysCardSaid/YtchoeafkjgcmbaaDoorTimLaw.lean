/-
  THE PLAIN LAWS OF CHAPTER 6: the bits of the stations; what was written is read as it is. No program in sight.
-/
import Derived.Test.YtchoeafkjgcmbaaDoorByt
namespace Go.Proofs.YtchoeafkjgcmbaaDoor

/-- Byte j of the stations' bits. -/
def byteOf (xs : List Int) (j : Nat) : Nat := xs.foldl (fun s a => if a.toNat / 8 = j then s ||| 2 ^ (a.toNat % 8) else s) 0
theorem byteOf_app (xs : List Int) (a : Int) (j : Nat) : byteOf (xs ++ [a]) j = if a.toNat / 8 = j then byteOf xs j ||| 2 ^ (a.toNat % 8) else byteOf xs j := by
  simp [byteOf, List.foldl_append]
theorem foldl_lt (j : Nat) : ∀ (xs : List Int) (s : Nat), s < 256 → xs.foldl (fun s a => if a.toNat / 8 = j then s ||| 2 ^ (a.toNat % 8) else s) s < 256
  | [], s, h => h
  | a :: r, s, h => by
    rw [List.foldl_cons]
    refine foldl_lt j r _ ?_
    split
    · exact Nat.or_lt_two_pow (n := 8) h (Nat.pow_lt_pow_right (by decide) (Nat.mod_lt _ (by decide)))
    · exact h
theorem byteOf_lt (xs : List Int) (j : Nat) : byteOf xs j < 256 := foldl_lt j xs 0 (by decide)
theorem foldl_bit (j k : Nat) : ∀ (xs : List Int) (s : Nat), (xs.foldl (fun s a => if a.toNat / 8 = j then s ||| 2 ^ (a.toNat % 8) else s) s).testBit k = true ↔ s.testBit k = true ∨ ∃ a ∈ xs, a.toNat / 8 = j ∧ a.toNat % 8 = k
  | [], s => by simp
  | a :: r, s => by
    rw [List.foldl_cons, foldl_bit j k r]
    by_cases h : a.toNat / 8 = j
    · rw [if_pos h, Nat.testBit_or, Nat.testBit_two_pow]
      simp only [Bool.or_eq_true, decide_eq_true_eq, List.mem_cons]
      constructor
      · rintro ((h1 | h1) | ⟨x, hx, h2⟩)
        · exact .inl h1
        · exact .inr ⟨a, .inl rfl, h, h1⟩
        · exact .inr ⟨x, .inr hx, h2⟩
      · rintro (h1 | ⟨x, (rfl | hx), h2, h3⟩)
        · exact .inl (.inl h1)
        · exact .inl (.inr h3)
        · exact .inr ⟨x, hx, h2, h3⟩
    · rw [if_neg h]
      simp only [List.mem_cons]
      constructor
      · rintro (h1 | ⟨x, hx, h2⟩)
        · exact .inl h1
        · exact .inr ⟨x, .inr hx, h2⟩
      · rintro (h1 | ⟨x, (rfl | hx), h2, h3⟩)
        · exact .inl h1
        · exact absurd h2 h
        · exact .inr ⟨x, hx, h2, h3⟩
theorem byteOf_bit (xs : List Int) (j k : Nat) : (byteOf xs j).testBit k = true ↔ ∃ a ∈ xs, a.toNat / 8 = j ∧ a.toNat % 8 = k := by
  have h := foldl_bit j k xs 0
  unfold byteOf
  rw [h]
  simp
/-- The bits of a byte as numbers from base on; of several bytes. -/
def bitsOf (base : Nat) (y : Nat) : Nat → List Int
  | 0 => []
  | k + 1 => if y.testBit k then bitsOf base y k ++ [((base + k : Nat) : Int)] else bitsOf base y k
def aidsTo (f : Nat) (ys : List Int) : Nat → List Int
  | 0 => []
  | i + 1 => aidsTo f ys i ++ bitsOf ((f + i) * 8) (ys.getD i 0).toNat 8
theorem mem_bitsOf (base y : Nat) (m : Int) : ∀ k, m ∈ bitsOf base y k ↔ ∃ i, i < k ∧ y.testBit i = true ∧ m = ((base + i : Nat) : Int)
  | 0 => by simp [bitsOf]
  | k + 1 => by
    rw [bitsOf]
    split
    · rename_i h
      rw [List.mem_append, mem_bitsOf base y m k, List.mem_singleton]
      constructor
      · rintro (⟨i, h1, h2, h3⟩ | h1)
        · exact ⟨i, by omega, h2, h3⟩
        · exact ⟨k, by omega, h, h1⟩
      · rintro ⟨i, h1, h2, h3⟩
        rcases (show i < k ∨ i = k by omega) with h4 | rfl
        · exact .inl ⟨i, h4, h2, h3⟩
        · exact .inr h3
    · rename_i h
      rw [mem_bitsOf base y m k]
      constructor
      · rintro ⟨i, h1, h2, h3⟩
        exact ⟨i, by omega, h2, h3⟩
      · rintro ⟨i, h1, h2, h3⟩
        rcases (show i < k ∨ i = k by omega) with h4 | rfl
        · exact ⟨i, h4, h2, h3⟩
        · exact absurd h2 h
theorem bitsOf_len (base y : Nat) : ∀ k, (bitsOf base y k).length ≤ k
  | 0 => Nat.le_refl _
  | k + 1 => by
    have := bitsOf_len base y k
    rw [bitsOf]
    split
    · simp; omega
    · omega
theorem aidsTo_len (f : Nat) (ys : List Int) : ∀ i, (aidsTo f ys i).length ≤ 8 * i
  | 0 => Nat.le_refl _
  | i + 1 => by
    have h1 := aidsTo_len f ys i
    have h2 := bitsOf_len ((f + i) * 8) (ys.getD i 0).toNat 8
    rw [aidsTo, List.length_append]
    omega
theorem mem_aidsTo (f : Nat) (ys : List Int) (m : Int) : ∀ i, m ∈ aidsTo f ys i ↔ ∃ j, j < i ∧ ∃ k, k < 8 ∧ (ys.getD j 0).toNat.testBit k = true ∧ m = (((f + j) * 8 + k : Nat) : Int)
  | 0 => by simp [aidsTo]
  | i + 1 => by
    rw [aidsTo, List.mem_append, mem_aidsTo f ys m i, mem_bitsOf]
    constructor
    · rintro (⟨j, h1, h2⟩ | h1)
      · exact ⟨j, by omega, h2⟩
      · exact ⟨i, by omega, h1⟩
    · rintro ⟨j, h1, h2⟩
      rcases (show j < i ∨ j = i by omega) with h4 | rfl
      · exact .inl ⟨j, h4, h2⟩
      · exact .inr h2
theorem bitsOf_up (base y : Nat) : ∀ k, (bitsOf base y k).Pairwise (· < ·)
  | 0 => .nil
  | k + 1 => by
    rw [bitsOf]
    split
    · rw [List.pairwise_append]
      refine ⟨bitsOf_up base y k, by simp, fun a ha b hb => ?_⟩
      obtain ⟨i, h1, _, rfl⟩ := (mem_bitsOf base y a k).1 ha
      simp only [List.mem_singleton] at hb
      subst hb
      omega
    · exact bitsOf_up base y k
theorem aidsTo_up (f : Nat) (ys : List Int) : ∀ i, (aidsTo f ys i).Pairwise (· < ·)
  | 0 => .nil
  | i + 1 => by
    rw [aidsTo, List.pairwise_append]
    refine ⟨aidsTo_up f ys i, bitsOf_up _ _ _, fun a ha b hb => ?_⟩
    obtain ⟨j, h1, k, h2, _, rfl⟩ := (mem_aidsTo f ys a i).1 ha
    obtain ⟨k', h3, _, rfl⟩ := (mem_bitsOf _ _ b 8).1 hb
    omega
theorem eq_of_up : ∀ (xs ys : List Int), xs.Pairwise (· < ·) → ys.Pairwise (· < ·) → (∀ m, m ∈ xs ↔ m ∈ ys) → xs = ys
  | [], [], _, _, _ => rfl
  | [], y :: r, _, _, h => by simpa using (h y).2 (by simp)
  | x :: r, [], _, _, h => by simpa using (h x).1 (by simp)
  | x :: r, y :: s, h1, h2, h => by
    rw [List.pairwise_cons] at h1 h2
    have e : x = y := by
      have hx := (h x).1 (by simp)
      have hy := (h y).2 (by simp)
      rw [List.mem_cons] at hx hy
      rcases hx with hx | hx
      · exact hx
      rcases hy with hy | hy
      · exact hy.symm
      have := h1.1 _ hy
      have := h2.1 _ hx
      omega
    subst e
    rw [eq_of_up r s h1.2 h2.2 (fun m => by
      have hm := h m
      rw [List.mem_cons, List.mem_cons] at hm
      constructor
      · intro hr
        rcases hm.1 (.inr hr) with rfl | h'
        · exact absurd (h1.1 _ hr) (by omega)
        · exact h'
      · intro hs
        rcases hm.2 (.inr hs) with rfl | h'
        · exact absurd (h2.1 _ hs) (by omega)
        · exact h')]
/-- The stations rise from 1 on, none beyond 2007. -/
def rising (xs : List Int) : Prop := ∀ j, j < xs.length → (0 :: xs).getD j 0 < xs.getD j 0 ∧ xs.getD j 0 ≤ 2007
instance (xs : List Int) : Decidable (rising xs) := by unfold rising; infer_instance
theorem getD_mem {xs : List Int} {j : Nat} (h : j < xs.length) : xs.getD j 0 ∈ xs := by
  rw [List.getD_eq_getElem?_getD, List.getElem?_eq_getElem h]
  exact List.getElem_mem _
theorem rising_step {xs : List Int} (h : rising xs) : ∀ (d j : Nat), j + d < xs.length → xs.getD j 0 + d ≤ xs.getD (j + d) 0
  | 0, j, _ => by simp
  | d + 1, j, hj => by
    have h1 := rising_step h d j (by omega)
    have h2 := (h (j + d + 1) (by omega)).1
    simp only [List.getD_cons_succ] at h2
    rw [show j + (d + 1) = j + d + 1 by omega]
    omega
theorem rising_pos {xs : List Int} (h : rising xs) {j : Nat} (hj : j < xs.length) : 1 ≤ xs.getD j 0 ∧ xs.getD j 0 ≤ 2007 := by
  have h1 := rising_step h j 0 (by omega)
  have h2 := (h 0 (by omega)).1
  rw [Nat.zero_add] at h1
  simp only [List.getD_cons_zero] at h2
  exact ⟨by omega, (h j hj).2⟩
theorem mem_getD {xs : List Int} {a : Int} (h : a ∈ xs) : ∃ j, j < xs.length ∧ xs.getD j 0 = a := by
  obtain ⟨j, hj, e⟩ := List.mem_iff_getElem.1 h
  exact ⟨j, hj, by rw [List.getD_eq_getElem?_getD, List.getElem?_eq_getElem hj]; exact e⟩
theorem rising_up {xs : List Int} (h : rising xs) : xs.Pairwise (· < ·) := by
  rw [List.pairwise_iff_getElem]
  intro i j hi hj hij
  have h1 := rising_step h (j - i) i (by omega)
  rw [show i + (j - i) = j by omega, List.getD_eq_getElem?_getD, List.getD_eq_getElem?_getD, List.getElem?_eq_getElem hi, List.getElem?_eq_getElem hj] at h1
  simp at h1
  omega
/-- The first byte's number (even), the last one's. -/
def firstOf (xs : List Int) : Nat := (xs.headD 0).toNat / 8 / 2 * 2
def lastOf (xs : List Int) : Nat := (xs.getLastD 0).toNat / 8
def sizeOf' (xs : List Int) : Nat := lastOf xs + 1 - firstOf xs
def partOf (xs : List Int) : List Int := (List.range (sizeOf' xs)).map fun i => (byteOf xs (firstOf xs + i) : Int)
theorem partOf_len (xs : List Int) : (partOf xs).length = sizeOf' xs := by simp [partOf]
theorem partOf_getD (xs : List Int) (i : Nat) (h : i < sizeOf' xs) : (partOf xs).getD i 0 = byteOf xs (firstOf xs + i) := by
  rw [List.getD_eq_getElem?_getD, partOf, List.getElem?_map, List.getElem?_range h]
  rfl
theorem head_getD (xs : List Int) : xs.headD 0 = xs.getD 0 0 := by cases xs <;> rfl
theorem last_getD (xs : List Int) : xs.getLastD 0 = xs.getD (xs.length - 1) 0 := by
  rw [List.getLastD_eq_getLast?, List.getLast?_eq_getElem?, List.getD_eq_getElem?_getD]
theorem lastOf_lt {xs : List Int} (h : rising xs) : lastOf xs < 251 := by
  unfold lastOf
  rw [last_getD]
  rcases Nat.eq_zero_or_pos xs.length with h0 | h0
  · rw [List.length_eq_zero_iff.1 h0]; decide
  · have := rising_pos h (show xs.length - 1 < xs.length by omega)
    omega
theorem first_le_last {xs : List Int} (h : rising xs) : firstOf xs ≤ lastOf xs := by
  unfold lastOf firstOf
  rw [last_getD, head_getD]
  rcases Nat.eq_zero_or_pos xs.length with h0 | h0
  · rw [List.length_eq_zero_iff.1 h0]; decide
  · have h1 := rising_step h (xs.length - 1) 0 (by omega)
    have h2 := rising_pos h h0
    rw [Nat.zero_add] at h1
    omega
theorem within {xs : List Int} (h : rising xs) {a : Int} (ha : a ∈ xs) : firstOf xs ≤ a.toNat / 8 ∧ a.toNat / 8 ≤ lastOf xs ∧ 1 ≤ a ∧ a ≤ 2007 := by
  obtain ⟨j, hj, rfl⟩ := mem_getD ha
  unfold lastOf firstOf
  rw [last_getD, head_getD]
  have h1 := rising_step h j 0 (by omega)
  have h2 := rising_pos h (show 0 < xs.length by omega)
  have h3 := rising_pos h hj
  have h4 := rising_step h (xs.length - 1 - j) j (by omega)
  rw [Nat.zero_add] at h1
  rw [show j + (xs.length - 1 - j) = xs.length - 1 by omega] at h4
  omega
/-- WHAT IS READ OUT OF THE BITS IS WHAT WAS PUT IN. -/
theorem aids_part {xs : List Int} (h : rising xs) : aidsTo (firstOf xs) (partOf xs) (sizeOf' xs) = xs := by
  refine eq_of_up _ _ (aidsTo_up _ _ _) (rising_up h) fun m => ?_
  rw [mem_aidsTo]
  have hfl := first_le_last h
  constructor
  · rintro ⟨j, hj, k, hk, hb, rfl⟩
    rw [partOf_getD _ _ hj, Int.toNat_natCast, byteOf_bit] at hb
    obtain ⟨a, ha, h1, h2⟩ := hb
    have h3 := within h ha
    have e : a = (((firstOf xs + j) * 8 + k : Nat) : Int) := by omega
    exact e ▸ ha
  · intro ha
    have h3 := within h ha
    refine ⟨m.toNat / 8 - firstOf xs, by unfold sizeOf'; omega, m.toNat % 8, Nat.mod_lt _ (by decide), ?_, by omega⟩
    rw [partOf_getD _ _ (by unfold sizeOf'; omega), Int.toNat_natCast, byteOf_bit]
    exact ⟨m, ha, by omega, rfl⟩
/-- A whole element. -/
def okT (count period : Int) (xs : List Int) : Prop := (1 ≤ period ∧ period ≤ 255) ∧ (0 ≤ count ∧ count < period) ∧ rising xs
instance (count period : Int) (xs : List Int) : Decidable (okT count period xs) := by unfold okT; infer_instance
def timL (count period : Int) (group : Bool) (xs : List Int) : List Int := [5, (sizeOf' xs : Int) + 3, count, period, (firstOf xs : Int) + if group then 1 else 0] ++ partOf xs
theorem timL_len (count period : Int) (group : Bool) (xs : List Int) : (timL count period group xs).length = sizeOf' xs + 5 := by
  simp [timL, partOf_len]
/-- Why bytes are none, before their stations are looked at: 0 where nothing is yet amiss. -/
def timK (bs : List Int) : Nat :=
  if bs.length < 2 then 1 else if bs.getD 0 0 ≠ 5 then 5 else if (bs.length : Int) - 2 < bs.getD 1 0 then 1 else if (bs.length : Int) - 2 > bs.getD 1 0 ∨ bs.getD 1 0 < 4 then 2 else 0
def firstB (bs : List Int) : Nat := (bs.getD 4 0).toNat / 2 * 2
def groupB (bs : List Int) : Bool := decide (0 < bs.getD 4 0 % 2)
def aidsB (bs : List Int) : List Int := aidsTo (firstB bs) (bs.drop 5) (bs.length - 5)
/-- Why bytes are none: 0 where they are an element. -/
def readK (bs : List Int) : Nat :=
  if timK bs ≠ 0 then timK bs else if ¬ okT (bs.getD 2 0) (bs.getD 3 0) (aidsB bs) then 3 else if timL (bs.getD 2 0) (bs.getD 3 0) (groupB bs) (aidsB bs) = bs then 0 else 2
theorem firstOf_even (xs : List Int) : firstOf xs % 2 = 0 := by unfold firstOf; omega
theorem firstOf_lt {xs : List Int} (h : rising xs) : firstOf xs < 251 := by have := first_le_last h; have := lastOf_lt h; omega
theorem sizeOf_pos {xs : List Int} (h : rising xs) : 1 ≤ sizeOf' xs ∧ sizeOf' xs ≤ 251 := by have := first_le_last h; have := lastOf_lt h; unfold sizeOf'; omega
theorem tim_at (count period : Int) (group : Bool) (xs : List Int) :
    (timL count period group xs).getD 0 0 = 5 ∧ (timL count period group xs).getD 1 0 = (sizeOf' xs : Int) + 3 ∧ (timL count period group xs).getD 2 0 = count ∧ (timL count period group xs).getD 3 0 = period ∧ (timL count period group xs).getD 4 0 = (firstOf xs : Int) + (if group then 1 else 0) ∧ (timL count period group xs).drop 5 = partOf xs :=
  ⟨rfl, rfl, rfl, rfl, rfl, rfl⟩
theorem tim_read {count period : Int} {group : Bool} {xs : List Int} (h : okT count period xs) :
    readK (timL count period group xs) = 0 ∧ groupB (timL count period group xs) = group ∧ aidsB (timL count period group xs) = xs := by
  obtain ⟨h0, h1, h2, h3, h4, h5⟩ := tim_at count period group xs
  have hl := timL_len count period group xs
  have hs := sizeOf_pos h.2.2
  have he := firstOf_even xs
  have hf : firstB (timL count period group xs) = firstOf xs := by
    unfold firstB
    rw [h4]
    cases group <;> simp <;> omega
  have hg : groupB (timL count period group xs) = group := by
    unfold groupB
    rw [h4]
    cases group <;> simp <;> omega
  have ha : aidsB (timL count period group xs) = xs := by
    unfold aidsB
    rw [hf, h5, hl, Nat.add_sub_cancel]
    exact aids_part h.2.2
  have hk : timK (timL count period group xs) = 0 := by
    unfold timK
    rw [h0, h1, hl, if_neg (by omega), if_neg (by simp), if_neg (by omega), if_neg (by omega)]
  refine ⟨?_, hg, ha⟩
  unfold readK
  rw [hk, ha, hg, h2, h3, if_neg (by simp), if_neg (by simpa using h), if_pos rfl]
theorem partOf_bytes (xs : List Int) : ∀ x ∈ partOf xs, 0 ≤ x ∧ x < 256 := by
  intro x hx
  unfold partOf at hx
  rw [List.mem_map] at hx
  obtain ⟨i, _, rfl⟩ := hx
  have := byteOf_lt xs (firstOf xs + i)
  omega
theorem tim_bytes {count period : Int} {group : Bool} {xs : List Int} (h : okT count period xs) : ∀ x ∈ timL count period group xs, 0 ≤ x ∧ x < 256 := by
  intro x hx
  unfold timL at hx
  rw [List.mem_append] at hx
  rcases hx with hx | hx
  · obtain ⟨⟨h1, h2⟩, ⟨h3, h4⟩, hr⟩ := h
    have hs := sizeOf_pos hr
    have hf := firstOf_lt hr
    have hb : (0 : Int) ≤ (if group then 1 else 0) ∧ (if group then (1 : Int) else 0) ≤ 1 := by cases group <;> decide
    simp only [List.mem_cons, List.not_mem_nil, or_false] at hx
    rcases hx with rfl | rfl | rfl | rfl | rfl <;> omega
  · exact partOf_bytes xs x hx
/-- The last byte has a bit, and one of the first two has. -/
theorem byteOf_ne {xs : List Int} {a : Int} (h : a ∈ xs) : byteOf xs (a.toNat / 8) ≠ 0 := by
  intro e
  have h1 := (byteOf_bit xs (a.toNat / 8) (a.toNat % 8)).2 ⟨a, h, rfl, rfl⟩
  rw [e] at h1
  simp at h1
theorem head_mem {xs : List Int} (h : xs ≠ []) : xs.headD 0 ∈ xs := by
  cases xs with
  | nil => exact absurd rfl h
  | cons a r => simp
theorem last_mem {xs : List Int} (h : xs ≠ []) : xs.getLastD 0 ∈ xs := by
  rw [last_getD]
  exact getD_mem (by have := List.length_pos_iff.2 h; omega)
theorem part_last {xs : List Int} (hr : rising xs) (h : xs ≠ []) : (partOf xs).getD (sizeOf' xs - 1) 0 ≠ 0 := by
  have hs := sizeOf_pos hr
  have hfl := first_le_last hr
  rw [partOf_getD _ _ (by omega), show firstOf xs + (sizeOf' xs - 1) = (xs.getLastD 0).toNat / 8 by unfold sizeOf' lastOf at *; omega]
  have := byteOf_ne (last_mem h)
  omega
theorem part_first {xs : List Int} (_ : rising xs) (h : xs ≠ []) (h2 : 2 ≤ sizeOf' xs) : (partOf xs).getD 0 0 ≠ 0 ∨ (partOf xs).getD 1 0 ≠ 0 := by
  rw [partOf_getD _ _ (by omega), partOf_getD _ _ (by omega)]
  have hb := byteOf_ne (head_mem h)
  rcases (show (xs.headD 0).toNat / 8 = firstOf xs + 0 ∨ (xs.headD 0).toNat / 8 = firstOf xs + 1 by unfold firstOf; omega) with e | e <;> rw [e] at hb
  · exact .inl (by omega)
  · exact .inr (by omega)
theorem part_nil : sizeOf' [] = 1 := rfl
/-- The whole row of bits, byte by byte. -/
def rowOf (xs : List Int) : List Int := (List.range 251).map fun j => (byteOf xs j : Int)
theorem rowOf_len (xs : List Int) : (rowOf xs).length = 251 := by simp [rowOf]
theorem rowOf_getD (xs : List Int) (j : Nat) (h : j < 251) : (rowOf xs).getD j 0 = byteOf xs j := by
  rw [List.getD_eq_getElem?_getD, rowOf, List.getElem?_map, List.getElem?_range h]
  rfl
theorem rowOf_nil : rowOf [] = List.replicate 251 0 := by simp [rowOf, byteOf, List.map_const']
theorem rowOf_app (xs : List Int) (a : Int) : rowOf (xs ++ [a]) = (rowOf xs).set (a.toNat / 8) ((byteOf xs (a.toNat / 8) ||| 2 ^ (a.toNat % 8) : Nat) : Int) := by
  apply List.ext_getElem (by rw [List.length_set, rowOf_len, rowOf_len])
  intro j h1 h2
  rw [List.getElem_set]
  simp only [rowOf, List.getElem_map, List.getElem_range, byteOf_app]
  split
  · rename_i h; rw [h]
  · rfl
theorem take_next (xs : List Int) (k : Nat) (h : k < xs.length) : xs.take (k + 1) = xs.take k ++ [xs.getD k 0] := by
  rw [List.take_add_one, List.getD_eq_getElem?_getD, List.getElem?_eq_getElem h]
  rfl
theorem firstOf_take (xs : List Int) (k : Nat) (h : 0 < k) : firstOf (xs.take k) = firstOf xs := by
  unfold firstOf
  rw [head_getD, head_getD, List.getD_eq_getElem?_getD, List.getD_eq_getElem?_getD, List.getElem?_take, if_pos h]
theorem lastOf_app (xs : List Int) (a : Int) : lastOf (xs ++ [a]) = a.toNat / 8 := by simp [lastOf]
end Go.Proofs.YtchoeafkjgcmbaaDoor
