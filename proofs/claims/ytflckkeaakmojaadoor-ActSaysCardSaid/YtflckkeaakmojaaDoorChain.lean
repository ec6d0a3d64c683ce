/-
  A REGION THAT DRAWS ITS ORDER AND HOLDS A CHAIN: calls and appends that hand one row of bytes on, each with a value that the world gives. Everything else is taken first (kY, kC); then the chain, link by link (kL, kB, kA): under a relation that knows of the last link that came up that its temporary holds a row of one's own. Conditions: those of XCalm.
-/
import Derived.Test.YtflckkeaakmojaaDoorCalm2
namespace Go.Proofs.YtflckkeaakmojaaDoor
open Go.RowKit

/-- Of the last link that has come up (the latest first): its temporary holds a row of one's own. -/
def rc (w : World) (a : Act) (l : Array Bool) (B : Nat) (v0 : Value) (L0 : List Int) : List (Nat × Nat × List Int) → Prop
  | [] => Own B w v0 L0
  | (i, s, L) :: r => if l.getD i false = true then ∃ v, a.tmps[s]? = some v ∧ Own B w v L else rc w a l B v0 L0 r
section
variable {w w' : World} {a : Act} {l : Array Bool} {B : Nat} {v0 : Value} {L0 : List Int} {r : List (Nat × Nat × List Int)} {i s : Nat} {L : List Int}
theorem rc_mk {v : Value} (h : l.getD i false = true) (hv : a.tmps[s]? = some v) (ho : Own B w v L) : rc w a l B v0 L0 ((i, s, L) :: r) := by
  unfold rc
  rw [if_pos h]
  exact ⟨v, hv, ho⟩
theorem rc_skip (h : l.getD i false = false) (k : rc w a l B v0 L0 r) : rc w a l B v0 L0 ((i, s, L) :: r) := by
  unfold rc
  rw [if_neg (by rw [h]; decide)]
  exact k
theorem rc_use {v : Value} (k : rc w a l B v0 L0 ((i, s, L) :: r)) (h : l.getD i false = true) (hv : a.tmps[s]? = some v) : Own B w v L := by
  unfold rc at k
  rw [if_pos h] at k
  obtain ⟨v', e, ho⟩ := k
  rw [hv] at e
  obtain rfl := Option.some.inj e
  exact ho
theorem rc_next (k : rc w a l B v0 L0 ((i, s, L) :: r)) (h : l.getD i false = false) : rc w a l B v0 L0 r := by
  unfold rc at k
  rwa [if_neg (by rw [h]; decide)] at k
theorem rc_gro (k : Gro none w w') : ∀ (st : List (Nat × Nat × List Int)), rc w a l B v0 L0 st → rc w' a l B v0 L0 st
  | [], h => Own.gro h k (by simp)
  | (i, s, L) :: r, h => by
    unfold rc at *
    split
    · rename_i hl
      rw [if_pos hl] at h
      obtain ⟨v, e, ho⟩ := h
      exact ⟨v, e, ho.gro k (by simp)⟩
    · rename_i hl
      rw [if_neg hl] at h
      exact rc_gro k r h
theorem rc_put {j x : Nat} {v : Value} : ∀ (st : List (Nat × Nat × List Int)), (st.all fun t => t.1 != j && t.2.1 != x) = true → (rc w (a.put (some x) v) (l.setIfInBounds j true) B v0 L0 st ↔ rc w a l B v0 L0 st)
  | [], _ => Iff.rfl
  | (i, s, L) :: r, h => by
    simp only [List.all_cons, Bool.and_eq_true, bne_iff_ne, ne_eq] at h
    obtain ⟨⟨h1, h2⟩, h3⟩ := h
    unfold rc
    rw [getD_set_ne false (Ne.symm h1), put_tmps a x v s (Ne.symm h2), rc_put r h3]
end
section
variable {P : Program} {ops : Array Oper} {Q : Exit → Act → World → Prop} {md : Region.Mode} {w0 : World} {v0 : Value} {L0 : List Int} {st : List (Nat × Nat × List Int)} {ib d ia n : Nat} {F : Array Value}
/-- The chain's relation: v0 holds L0 at first; the literal of operation ib, in temporary d, lies there till operation ia has come up. -/
def RK (w0 : World) (v0 : Value) (L0 : List Int) (st : List (Nat × Nat × List Int)) (ib d ia n : Nat) (F : Array Value) (l : Array Bool) (a : Act) (w : World) : Prop :=
  Gro none w0 w ∧ rc w a l w0.heap.size v0 L0 st ∧ (l.getD ib false = true → l.getD ia false = false → ∃ g, a.tmps[d]? = some (.slice (some ⟨g, 0, none⟩) n n) ∧ w.heap[g]? = some (.cells F 5 (0, 0)))
theorem RK.gro {l : Array Bool} {a : Act} {w w' : World} (h : RK w0 v0 L0 st ib d ia n F l a w) (k : Gro none w w') : RK w0 v0 L0 st ib d ia n F l a w' :=
  ⟨h.1.trans k, rc_gro k st h.2.1, fun h1 h2 => by
    obtain ⟨g, e, r⟩ := h.2.2 h1 h2
    exact ⟨g, e, (k.block g (blk_in r) (by simp)).trans r⟩⟩
theorem RK.put {i x : Nat} {v : Value} {l : Array Bool} {a : Act} {w : World} (hst : (st.all fun t => t.1 != i && t.2.1 != x) = true) (hx : x ≠ d) (h1 : i ≠ ib) (h2 : i ≠ ia) :
    RK w0 v0 L0 st ib d ia n F (l.setIfInBounds i true) (a.put (some x) v) w ↔ RK w0 v0 L0 st ib d ia n F l a w := by
  unfold RK
  rw [rc_put st hst, getD_set_ne false h1, getD_set_ne false h2, put_tmps a x v d hx]
theorem wp_region_K {id : Nat} {a : Act} {w : World} (w0 : World) (hg : Gro none w0 w) (v0 : Value) (L0 : List Int) (st : List (Nat × Nat × List Int)) (ib d ia n : Nat) (F : Array Value) (hm : P.follows .mixedOrders = true) (hb : (Array.replicate ops.size false).getD ib false = false)
    (hst : rc w.drew a (Array.replicate ops.size false) w0.heap.size v0 L0 st)
    (h : wpAnyS P .any ops Q (RK w0 v0 L0 st ib d ia n F) ops.size (Array.replicate ops.size false) a) : (Code.region id ops true).wp P Q a w :=
  wp_region_S (RK w0 v0 L0 st ib d ia n F) hm ⟨Gro.drew hg, hst, fun h => by rw [hb] at h; cases h⟩ h
theorem kY {i x ty : Nat} {op : Op} {pos : String} {after : Array Edge} {v : Value} {fuel : Nat} {listed : Array Bool} {a : Act} (hi : ops[i]? = some ⟨some x, op, ty, pos, after, none⟩) (hst : (st.all fun t => t.1 != i && t.2.1 != x) = true) (hx : x ≠ d) (h1 : i ≠ ib) (h2 : i ≠ ia)
    (hs : Region.noSelect ops = true) (hf : Region.free md ops listed i = true) (hr : (Region.ready md ops listed).contains i = true) (hQ : ∀ c a w, Q (.panic c) (a.put (some x) v) w → Q (.panic c) a w)
    (hy : ∀ w, Gro none w0 w → (execOp a.eval ⟨some x, op, ty, pos, after, none⟩).run P w = .ok (.value v) w)
    (h : wpAnyS P md ops Q (RK w0 v0 L0 st ib d ia n F) fuel (listed.setIfInBounds i true) (a.put (some x) v)) : wpAnyS P md ops Q (RK w0 v0 L0 st ib d ia n F) (fuel + 1) listed a :=
  wpAnyS_take hi hs hf hr hQ (fun l a w _ h => (RK.put hst hx h1 h2).2 h) (fun l a w _ h => (RK.put hst hx h1 h2).1 h) (.inl ⟨by simp [Region.wanted], fun l a' w _ he hs => by
    unfold Oper.wp
    rw [he, hy w hs.1]
    simp only [Oper.upon]
    exact ⟨trivial, (RK.put hst hx h1 h2).2 hs⟩⟩) h
theorem kC {i x ty : Nat} {op : Op} {pos : String} {after : Array Edge} {v : Value} {fuel : Nat} {listed : Array Bool} {a : Act} (f : Nat) (args : Array Value) (hi : ops[i]? = some ⟨some x, op, ty, pos, after, none⟩) (hst : (st.all fun t => t.1 != i && t.2.1 != x) = true) (hx : x ≠ d) (h1 : i ≠ ib) (h2 : i ≠ ia)
    (hs : Region.noSelect ops = true) (hf : Region.free md ops listed i = true) (hr : (Region.ready md ops listed).contains i = true) (hQ : ∀ c a w, Q (.panic c) (a.put (some x) v) w → Q (.panic c) a w)
    (hy : ∀ w, (execOp a.eval ⟨some x, op, ty, pos, after, none⟩).run P w = .ok (.enter f args) w)
    (hc : ∀ w, Gro none w0 w → Calls P f args w fun e w' => e = .returned v ∧ Gro none w w')
    (h : wpAnyS P md ops Q (RK w0 v0 L0 st ib d ia n F) fuel (listed.setIfInBounds i true) (a.put (some x) v)) : wpAnyS P md ops Q (RK w0 v0 L0 st ib d ia n F) (fuel + 1) listed a :=
  wpAnyS_take hi hs hf hr hQ (fun l a w _ h => (RK.put hst hx h1 h2).2 h) (fun l a w _ h => (RK.put hst hx h1 h2).1 h) (.inl ⟨by simp [Region.wanted], fun l a' w _ he hs => by
    unfold Oper.wp
    rw [he, hy w]
    simp only [Oper.upon]
    refine (hc w hs.1).mono fun e w' ⟨hd, hk⟩ => ?_
    rw [hd]
    exact ⟨rfl, ((RK.put hst hx h1 h2).2 hs).gro hk⟩⟩) h
/-- A link by a call: it gives a new row of one's own. -/
theorem kL {i x ty : Nat} {op : Op} {pos : String} {after : Array Edge} {fuel : Nat} {listed : Array Bool} {a : Act} (f : Nat) (args : Array Value) (L : List Int) (hi : ops[i]? = some ⟨some x, op, ty, pos, after, none⟩) (hr : Region.ready md ops listed = [i]) (hib : listed.getD ib false = false ∨ listed.getD ia false = true) (h1 : i ≠ ib) (h2 : i ≠ ia)
    (hy : ∀ w, (execOp a.eval ⟨some x, op, ty, pos, after, none⟩).run P w = .ok (.enter f args) w)
    (hc : ∀ w, Gro none w0 w → rc w a listed w0.heap.size v0 L0 st → Calls P f args w fun e w' => ∃ v', e = .returned v' ∧ Own w0.heap.size w' v' L ∧ Gro none w0 w')
    (hmk : ∀ w v', Own w0.heap.size w v' L → rc w (a.put (some x) v') (listed.setIfInBounds i true) w0.heap.size v0 L0 st)
    (h : ∀ v', wpAnyS P md ops Q (RK w0 v0 L0 st ib d ia n F) fuel (listed.setIfInBounds i true) (a.put (some x) v')) : wpAnyS P md ops Q (RK w0 v0 L0 st ib d ia n F) (fuel + 1) listed a := by
  refine wpAnyS_one hi hr rfl fun w hs => ?_
  unfold Oper.wp
  rw [hy w]
  simp only [Oper.upon]
  refine (hc w hs.1 hs.2.1).mono fun e w' ⟨v', he, ho, hg⟩ => ?_
  rw [he]
  refine ⟨⟨hg, hmk _ _ ho, fun e1 e2 => ?_⟩, h v'⟩
  rw [getD_set_ne false h1] at e1
  rw [getD_set_ne false h2] at e2
  rcases hib with h | h
  · rw [h] at e1; cases e1
  · rw [h] at e2; cases e2
/-- A link by a slice literal, that is the row. -/
theorem kB {i x ty m : Nat} {op : Op} {pos : String} {after : Array Edge} {fuel : Nat} {listed : Array Bool} {a : Act} {G : Array Value} (L : List Int) (hi : ops[i]? = some ⟨some x, op, ty, pos, after, none⟩) (hr : Region.ready md ops listed = [i]) (hib : listed.getD ib false = false) (h1 : i ≠ ib)
    (hy : ∀ w, (execOp a.eval ⟨some x, op, ty, pos, after, none⟩).run P w = .ok (.value (.slice (some ⟨w.heap.size, 0, none⟩) m m)) (w.alloc (.cells G 5)))
    (hG : G = (L.map (Value.int .u8)).toArray) (hm : m = L.length) (hl : L.length ≤ 100000)
    (hmk : ∀ w v', Own w0.heap.size w v' L → rc w (a.put (some x) v') (listed.setIfInBounds i true) w0.heap.size v0 L0 st)
    (h : ∀ v', wpAnyS P md ops Q (RK w0 v0 L0 st ib d ia n F) fuel (listed.setIfInBounds i true) (a.put (some x) v')) : wpAnyS P md ops Q (RK w0 v0 L0 st ib d ia n F) (fuel + 1) listed a := by
  refine wpAnyS_one hi hr rfl fun w hs => ?_
  unfold Oper.wp
  rw [hy w]
  simp only [Oper.upon]
  refine ⟨⟨hs.1.alloc _, hmk _ _ ((own_new w L G w.heap.size rfl hG m hm hl).weak hs.1.size), fun e1 _ => ?_⟩, h _⟩
  rw [getD_set_ne false h1, hib] at e1
  cases e1
/-- The literal that is appended. -/
theorem kS {ty : Nat} {op : Op} {pos : String} {after : Array Edge} {fuel : Nat} {listed : Array Bool} {a : Act} (hi : ops[ib]? = some ⟨some d, op, ty, pos, after, none⟩) (hr : Region.ready md ops listed = [ib]) (hd : d < a.tmps.size) (hst : (st.all fun t => t.1 != ib && t.2.1 != d) = true)
    (hy : ∀ w, (execOp a.eval ⟨some d, op, ty, pos, after, none⟩).run P w = .ok (.value (.slice (some ⟨w.heap.size, 0, none⟩) n n)) (w.alloc (.cells F 5)))
    (h : ∀ g, wpAnyS P md ops Q (RK w0 v0 L0 st ib d ia n F) fuel (listed.setIfInBounds ib true) (a.put (some d) (.slice (some ⟨g, 0, none⟩) n n))) : wpAnyS P md ops Q (RK w0 v0 L0 st ib d ia n F) (fuel + 1) listed a := by
  refine wpAnyS_one hi hr rfl fun w hs => ?_
  unfold Oper.wp
  rw [hy w]
  simp only [Oper.upon]
  exact ⟨⟨hs.1.alloc _, (rc_put st hst).2 (rc_gro ((Gro.refl _ _).alloc _) st hs.2.1), fun _ _ => ⟨w.heap.size, by simp [Act.put, hd], heap_alloc_new w _⟩⟩, h _⟩
/-- The first link (a row of its own, out of nothing) and the literal that is appended to it: whichever comes up first. -/
theorem kLS {i x ty ty2 : Nat} {op op2 : Op} {pos pos2 : String} {after after2 : Array Edge} {fuel : Nat} {listed : Array Bool} {a : Act} (f : Nat) (args : Array Value) (L : List Int)
    (hi : ops[i]? = some ⟨some x, op, ty, pos, after, none⟩) (hj : ops[ib]? = some ⟨some d, op2, ty2, pos2, after2, none⟩) (hr : Region.ready md ops listed = [i, ib]) (hr1 : Region.ready md ops (listed.setIfInBounds i true) = [ib]) (hr2 : Region.ready md ops (listed.setIfInBounds ib true) = [i])
    (hxd : x ≠ d) (hne : i ≠ ib) (h2 : i ≠ ia) (hib : listed.getD ib false = false) (hlb : (listed.setIfInBounds ib true).getD ib false = true) (hd : d < a.tmps.size) (hst : (st.all fun t => t.1 != ib && t.2.1 != d) = true)
    (hy1 : ∀ w, (execOp a.eval ⟨some x, op, ty, pos, after, none⟩).run P w = .ok (.enter f args) w)
    (hy2 : ∀ w g, (execOp (a.put (some d) (.slice (some ⟨g, 0, none⟩) n n)).eval ⟨some x, op, ty, pos, after, none⟩).run P w = .ok (.enter f args) w)
    (hz1 : ∀ w, (execOp a.eval ⟨some d, op2, ty2, pos2, after2, none⟩).run P w = .ok (.value (.slice (some ⟨w.heap.size, 0, none⟩) n n)) (w.alloc (.cells F 5)))
    (hz2 : ∀ w v, (execOp (a.put (some x) v).eval ⟨some d, op2, ty2, pos2, after2, none⟩).run P w = .ok (.value (.slice (some ⟨w.heap.size, 0, none⟩) n n)) (w.alloc (.cells F 5)))
    (hc : ∀ w, Calls P f args w fun e w' => ∃ v', e = .returned v' ∧ Own w.heap.size w' v' L ∧ Gro none w w')
    (hmk : ∀ w v', Own w0.heap.size w v' L → rc w (a.put (some x) v') (listed.setIfInBounds i true) w0.heap.size v0 L0 st)
    (h : ∀ v' g, wpAnyS P md ops Q (RK w0 v0 L0 st ib d ia n F) fuel ((listed.setIfInBounds i true).setIfInBounds ib true) ((a.put (some x) v').put (some d) (.slice (some ⟨g, 0, none⟩) n n))) : wpAnyS P md ops Q (RK w0 v0 L0 st ib d ia n F) (fuel + 2) listed a := by
  intro w hs
  refine ⟨fun h0 => (by rw [hr] at h0; cases h0), fun j hjm => ?_⟩
  rw [hr] at hjm
  simp only [List.mem_cons, List.not_mem_nil, or_false] at hjm
  rcases hjm with hji | hji <;> rw [hji]
  · unfold wpOp
    simp only [hi, Region.wanted, if_true]
    refine .inl ?_
    unfold Oper.wp
    rw [hy1 w]
    simp only [Oper.upon]
    refine (hc w).mono fun e w' ⟨v', he, ho, hg⟩ => ?_
    rw [he]
    refine ⟨⟨hs.1.trans hg, hmk _ _ (ho.weak hs.1.size), fun e1 _ => ?_⟩, ?_⟩
    · rw [getD_set_ne false hne, hib] at e1
      cases e1
    · exact kS hj hr1 (by simpa [Act.put] using hd) hst (fun w => hz2 w v') (fun g => h v' g)
  · unfold wpOp
    simp only [hj, Region.wanted, if_true]
    refine .inl ?_
    unfold Oper.wp
    rw [hz1 w]
    simp only [Oper.upon]
    refine ⟨⟨hs.1.alloc _, (rc_put st hst).2 (rc_gro ((Gro.refl _ _).alloc _) st hs.2.1), fun _ _ => ⟨w.heap.size, by simp [Act.put, hd], heap_alloc_new w _⟩⟩, ?_⟩
    generalize w.heap.size = g0
    refine wpAnyS_one hi hr2 rfl fun w2 hs2 => ?_
    unfold Oper.wp
    rw [hy2 w2 g0]
    simp only [Oper.upon]
    refine (hc w2).mono fun e w' ⟨v', he, ho, hg⟩ => ?_
    rw [he]
    have hcomm : (a.put (some d) (.slice (some ⟨g0, 0, none⟩) n n)).put (some x) v' = (a.put (some x) v').put (some d) (.slice (some ⟨g0, 0, none⟩) n n) := Act.put_comm a _ _ (fun d1 e1 e2 => by cases e1; cases e2; exact hxd rfl)
    have hl : (listed.setIfInBounds ib true).setIfInBounds i true = (listed.setIfInBounds i true).setIfInBounds ib true := Array.setIfInBounds_comm _ _ (Ne.symm hne)
    have hdd : (a.put (some d) (.slice (some ⟨g0, 0, none⟩) n n)).tmps[d]? = some (.slice (some ⟨g0, 0, none⟩) n n) := by simp [Act.put, hd]
    simp only
    rw [hcomm, hl]
    refine ⟨⟨hs2.1.trans hg, (rc_put st hst).2 (hmk _ _ (ho.weak hs2.1.size)), fun e1 e2 => ?_⟩, h v' g0⟩
    obtain ⟨g', e3, hrow⟩ := hs2.2.2 hlb (by
      rw [← hl, getD_set_ne false h2] at e2
      exact e2)
    rw [hdd] at e3
    injection e3 with e3
    injection e3 with e3
    injection e3 with e3
    injection e3 with e3
    subst e3
    exact ⟨g0, by simp [Act.put, hd], (hg.block g0 (blk_in hrow) (by simp)).trans hrow⟩
end
/-- A link by append: the literal's bytes behind the row. -/
theorem kA {ops : Array Oper} {Q : Exit → Act → World → Prop} {md : Region.Mode} {w0 : World} {v0 : Value} {L0 : List Int} {st : List (Nat × Nat × List Int)} {ib d ia n x ty : Nat} {F : Array Value} {pos : String} {after : Array Edge} {fuel : Nat} {listed : Array Bool} {a : Act} (s y : Operand) (L X : List Int) (v : Value) (g : Nat)
    (hi : ops[ia]? = some ⟨some x, .call { callee := .builtin .append, args := #[s, y], argTypes := #[28, 28] }, ty, pos, after, none⟩) (hr : Region.ready md ops listed = [ia]) (hia : ia < listed.size) (hlb : listed.getD ib false = true) (hla : listed.getD ia false = false)
    (hs : a.eval s = v) (hy : a.eval y = .slice (some ⟨g, 0, none⟩) n n) (hd : a.tmps[d]? = some (.slice (some ⟨g, 0, none⟩) n n)) (hF : F = (X.map (Value.int .u8)).toArray) (hn : X.length = n) (hlen : L.length + n ≤ 100000)
    (hrc : ∀ w, rc w a listed w0.heap.size v0 L0 st → Own w0.heap.size w v L)
    (hmk : ∀ w v', Own w0.heap.size w v' (L ++ X) → rc w (a.put (some x) v') (listed.setIfInBounds ia true) w0.heap.size v0 L0 st)
    (h : ∀ v', wpAnyS Tryd.prog md ops Q (RK w0 v0 L0 st ib d ia n F) fuel (listed.setIfInBounds ia true) (a.put (some x) v')) : wpAnyS Tryd.prog md ops Q (RK w0 v0 L0 st ib d ia n F) (fuel + 1) listed a := by
  refine wpAnyS_one hi hr rfl fun w hw => ?_
  obtain ⟨g', e, hrow⟩ := hw.2.2 hlb hla
  rw [hd] at e
  injection e with e
  injection e with e
  injection e with e
  injection e with e
  subst e
  have hlie : LieA w ⟨g, 0, none⟩ X := lie_mid (row := none) X hrow (Gro.refl _ _) (by simp) fun j hj => by
    rw [hF, Nat.zero_add, List.getElem?_toArray, List.getElem?_map, List.getElem?_eq_getElem hj, List.getD_eq_getElem?_getD, List.getElem?_eq_getElem hj]
    rfl
  have hstep := step_app (ops := #[]) (E := False) (Q := Q) (a := a) (o := ⟨some x, .call { callee := .builtin .append, args := #[s, y], argTypes := #[28, 28] }, ty, pos, after, none⟩) rfl s y rfl w0 L X v hs (hrc w hw.2.1) hw.1 ⟨g, 0, none⟩ n n hy hn hlie hlen
    (K := fun a' w' => RK w0 v0 L0 st ib d ia n F (listed.setIfInBounds ia true) a' w' ∧ wpAnyS Tryd.prog md ops Q (RK w0 v0 L0 st ib d ia n F) fuel (listed.setIfInBounds ia true) a')
    (fun v' w' ho hg => ⟨⟨hg, hmk w' v' ho, fun _ e2 => by
      have : (listed.setIfInBounds ia true).getD ia false = true := by simp [hia]
      rw [this] at e2
      cases e2⟩, h v'⟩)
  rwa [if_pos (by simp [Region.wanted])] at hstep
end Go.Proofs.YtflckkeaakmojaaDoor
