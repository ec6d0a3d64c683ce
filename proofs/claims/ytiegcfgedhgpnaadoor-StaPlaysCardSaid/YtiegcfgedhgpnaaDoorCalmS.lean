/-
  A CALM OPERATION OF A REGION THAT DRAWS ITS ORDER MAY BE TAKEN FIRST: an operation that, in whatever world meets a relation S, leaves one value in its temporary and a world that meets S again (a call that makes memory of its own and gives a fixed value). S may look at what has come up, at the frame and at the world. Conditions: the operation waits for none that is left, and no other operation that is left touches its temporary; S does not look at the operation's own temporary. Nothing else.
-/
import Derived.Test.YtiegcfgedhgpnaaDoorSent
import Derived.Laws.BytesArg
import Derived.Laws.BitsAllLaws
namespace Go.Proofs.YtiegcfgedhgpnaaDoor
open Go.RowKit

section
variable {P : Program} {ops : Array Oper} {Q : Exit → Act → World → Prop} {md : Region.Mode} {S : Array Bool → Act → World → Prop}

/-- From a frame that gives operation number i what it looks at: v in its temporary, and S of the world behind it. -/
def Calm (P : Program) (ops : Array Oper) (Q : Exit → Act → World → Prop) (S : Array Bool → Act → World → Prop) (i : Nat) (o : Oper) (v : Value) (a : Act) : Prop :=
  (Region.wanted o (yielded ops a.tmps) = true ∧ ∀ (l : Array Bool) (a' : Act) (w : World), l.getD i true = false → execOp a'.eval o = execOp a.eval o → S l a' w →
    o.wp P a' w (fun a'' w'' => a'' = a'.put o.dst v ∧ S (l.setIfInBounds i true) a'' w'') Q) ∨
  (Region.wanted o (yielded ops a.tmps) = false ∧ v = undef)
theorem Calm.of_same {i : Nat} {o : Oper} {v : Value} {a a' : Act} (hy : Calm P ops Q S i o v a) (he : execOp a'.eval o = execOp a.eval o)
    (hw : Region.wanted o (yielded ops a'.tmps) = Region.wanted o (yielded ops a.tmps)) : Calm P ops Q S i o v a' := by
  unfold Calm at *
  rw [he, hw]
  exact hy
theorem wpOp_putC {j i : Nat} {oi oj : Oper} {v : Value} (hj : ops[j]? = some oj) (hap : oi.apart ops oj = true)
    (hsi : ∀ cs b, oi.op ≠ .select cs b) (hsj : ∀ cs b, oj.op ≠ .select cs b)
    (hQ : ∀ c a w, Q (.panic c) (a.put oi.dst v) w → Q (.panic c) a w) {K : Act → World → Prop} {a : Act} {w : World}
    (hy : Calm P ops Q S i oi v a) (h : wpOp P ops Q j K (a.put oi.dst v) w) :
    wpOp P ops Q j (fun a' w' => Calm P ops Q S i oi v a' ∧ K (a'.put oi.dst v) w') a w := by
  obtain ⟨h1, h2, h3⟩ := Oper.apart_spec hap
  have keep : ∀ (a : Act), Calm P ops Q S i oi v a → ∀ u, Calm P ops Q S i oi v (a.put oj.dst u) := fun a hy u =>
    hy.of_same (execOp_put oi hsi a oj.dst u h3) (wanted_put oi a oj.dst u h3)
  have keepD : ∀ d, Calm P ops Q S i oi v { a with defers := d :: a.defers } := fun d => hy.of_same rfl rfl
  unfold wpOp at *
  simp only [hj] at *
  rw [wanted_put oj a oi.dst v h1] at h
  split
  · rename_i hw
    simp only [hw, if_true] at h
    rcases h with h | ⟨hasks, hlets⟩
    case inr => exact .inr ⟨by unfold Oper.asks at *; rw [execOp_put oj hsj a oi.dst v h1] at hasks; exact hasks, hlets⟩
    refine .inl ?_
    unfold Oper.wp at *
    rw [execOp_put oj hsj a oi.dst v h1] at h
    generalize (execOp a.eval oj).run P w = r at *
    cases r with
    | ok n w' =>
      cases n <;> simp only [Oper.upon] at h ⊢
      case value u => exact ⟨keep a hy u, by rw [← Act.put_comm a v u h2]; exact h⟩
      case skip => exact ⟨keep a hy _, by rw [← Act.put_comm a v undef h2]; exact h⟩
      case defer d =>
        refine ⟨keep _ (keepD d) _, ?_⟩
        rw [← Act.put_comm _ v undef h2, ← Act.put_defers]
        exact h
      case enter f args =>
        refine Calls.mono h fun e w'' he => ?_
        cases e with
        | returned u => exact ⟨keep a hy u, by rw [← Act.put_comm a v u h2]; exact he⟩
        | panicked c => exact hQ _ _ _ he
        | outgrown => exact he
      case row row args => exact Rows.mono h fun u w'' he => ⟨keep a hy u, by rw [← Act.put_comm a v u h2]; exact he⟩
    | halt x w' =>
      cases x <;> simp only [Oper.upon] at h ⊢
      case panic u => exact hQ _ _ _ h
  · rename_i hw
    simp only [hw] at h
    exact ⟨keep a hy _, by rw [← Act.put_comm a v undef h2]; exact h⟩

/-- Whatever order is picked from here on, from whatever world meets S. -/
def wpAnyS (P : Program) (md : Region.Mode) (ops : Array Oper) (Q : Exit → Act → World → Prop) (S : Array Bool → Act → World → Prop) : Nat → Array Bool → Act → Prop
  | 0, listed, a => ∀ w, S listed a w → Region.ready md ops listed = [] ∧ Q .normal a w
  | fuel + 1, listed, a => ∀ w, S listed a w → (Region.ready md ops listed = [] → Q .normal a w) ∧
    ∀ i ∈ Region.ready md ops listed, wpOp P ops Q i (fun a' w' => S (listed.setIfInBounds i true) a' w' ∧ wpAnyS P md ops Q S fuel (listed.setIfInBounds i true) a') a w
theorem wpAny_of_S : ∀ (fuel : Nat) (listed : Array Bool) (a : Act) (w : World), S listed a w → wpAnyS P md ops Q S fuel listed a → wpAny P md ops Q fuel listed a w
  | 0, _, _, w, hs, h => h w hs
  | fuel + 1, _, _, w, hs, h => ⟨(h w hs).1, fun i hi => wpOp_mono (fun a' w' h' => wpAny_of_S fuel _ a' w' h'.1 h'.2) ((h w hs).2 i hi)⟩

theorem wpAnyS_first {i : Nat} {oi : Oper} {v : Value} (hi : ops[i]? = some oi) (hsel : ∀ (j : Nat) (o : Oper) cs b, ops[j]? = some o → o.op ≠ .select cs b)
    (hQ : ∀ c a w, Q (.panic c) (a.put oi.dst v) w → Q (.panic c) a w)
    (hS1 : ∀ (l : Array Bool) (a : Act) (w : World), l.getD i true = false → S l a w → S (l.setIfInBounds i true) (a.put oi.dst v) w)
    (hS2 : ∀ (l : Array Bool) (a : Act) (w : World), l.getD i true = false → S (l.setIfInBounds i true) (a.put oi.dst v) w → S l a w) :
    ∀ (fuel : Nat) (listed : Array Bool) (a : Act),
      (∀ j oj, ops[j]? = some oj → j ≠ i → listed.getD j true = false → (∀ e ∈ oj.after, Region.binds md e = true → e.on ≠ i) → oi.apart ops oj = true) →
      i ∈ Region.ready md ops listed → Calm P ops Q S i oi v a →
      wpAnyS P md ops Q S fuel (listed.setIfInBounds i true) (a.put oi.dst v) → wpAnyS P md ops Q S (fuel + 1) listed a := by
  have hself : ∀ (fuel : Nat) (listed : Array Bool) (a : Act) (w : World), listed.getD i true = false → Calm P ops Q S i oi v a → S listed a w → wpAnyS P md ops Q S fuel (listed.setIfInBounds i true) (a.put oi.dst v) →
      wpOp P ops Q i (fun a' w' => S (listed.setIfInBounds i true) a' w' ∧ wpAnyS P md ops Q S fuel (listed.setIfInBounds i true) a') a w := by
    intro fuel listed a w hun hy hs H
    unfold wpOp
    simp only [hi]
    rcases hy with ⟨hw, hv⟩ | ⟨hw, rfl⟩
    · simp only [hw, if_true]
      exact .inl (Oper.wp_mono (fun a' w' ⟨e, h⟩ => ⟨h, e ▸ H⟩) (hv listed a w hun rfl hs))
    · simp only [hw, Bool.false_eq_true, if_false]
      exact ⟨hS1 _ _ _ hun hs, H⟩
  intro fuel
  induction fuel with
  | zero =>
    intro listed a _ hr hy H w hs
    have hun := (mem_ready.1 hr).1
    refine ⟨fun h => (by rw [h] at hr; cases hr), fun j hj => ?_⟩
    by_cases hji : j = i
    · subst hji; exact hself 0 listed a w hun hy hs H
    · have := ready_mono hj hji
      rw [(H w (hS1 _ _ _ hun hs)).1] at this
      cases this
  | succ fuel ih =>
    intro listed a hfree hr hy H w hs
    have hun := (mem_ready.1 hr).1
    refine ⟨fun h => (by rw [h] at hr; cases hr), fun j hj => ?_⟩
    by_cases hji : j = i
    · subst hji; exact hself (fuel + 1) listed a w hun hy hs H
    · have h1 := (H w (hS1 _ _ _ hun hs)).2 j (ready_mono hj hji)
      obtain ⟨hjun, oj, hoj, hall⟩ := mem_ready.1 hj
      have hnot : ∀ e ∈ oj.after, Region.binds md e = true → e.on ≠ i := fun e he hb heq => by
        have h1 := hall e he hb
        have h0 := hun
        rw [heq] at h1
        rcases Nat.lt_or_ge i listed.size with h' | h'
        · simp [h'] at h0 h1; rw [h0] at h1; cases h1
        · simp [Array.getElem?_eq_none h'] at h1
      have h2 := wpOp_putC hoj (hfree j oj hoj hji hjun hnot) (fun cs b => hsel i oi cs b hi) (fun cs b => hsel j oj cs b hoj) hQ hy h1
      have hfree' : ∀ k ok, ops[k]? = some ok → k ≠ i → (listed.setIfInBounds j true).getD k true = false →
          (∀ e ∈ ok.after, Region.binds md e = true → e.on ≠ i) → oi.apart ops ok = true := fun k ok hk hki hun hno => by
        refine hfree k ok hk hki ?_ hno
        by_cases hjk : j = k
        · subst hjk; exact hjun
        · rw [getD_set_ne true hjk] at hun; exact hun
      refine wpOp_mono (fun a' w' h3 => ?_) h2
      have h4 := h3.2.1
      have h5 := h3.2.2
      rw [Array.setIfInBounds_comm _ _ (Ne.symm hji)] at h4 h5
      have hun' : (listed.setIfInBounds j true).getD i true = false := by rw [getD_set_ne true hji]; exact hun
      exact ⟨hS2 _ _ _ hun' h4, ih (listed.setIfInBounds j true) a' hfree' (ready_mono hr (Ne.symm hji)) h3.1 h5⟩

theorem wpAnyS_take {i : Nat} {oi : Oper} {v : Value} {fuel : Nat} {listed : Array Bool} {a : Act} (hi : ops[i]? = some oi)
    (hs : Region.noSelect ops = true) (hf : Region.free md ops listed i = true) (hr : (Region.ready md ops listed).contains i = true)
    (hQ : ∀ c a w, Q (.panic c) (a.put oi.dst v) w → Q (.panic c) a w)
    (hS1 : ∀ (l : Array Bool) (a : Act) (w : World), l.getD i true = false → S l a w → S (l.setIfInBounds i true) (a.put oi.dst v) w)
    (hS2 : ∀ (l : Array Bool) (a : Act) (w : World), l.getD i true = false → S (l.setIfInBounds i true) (a.put oi.dst v) w → S l a w)
    (hy : Calm P ops Q S i oi v a)
    (h : wpAnyS P md ops Q S fuel (listed.setIfInBounds i true) (a.put oi.dst v)) : wpAnyS P md ops Q S (fuel + 1) listed a :=
  wpAnyS_first hi (Region.noSelect_spec hs) hQ hS1 hS2 fuel listed a (Region.free_spec hi hf) (by simpa using hr) hy h
/-- The one that is left comes up. -/
theorem wpAnyS_one {i : Nat} {oi : Oper} {fuel : Nat} {listed : Array Bool} {a : Act} (hi : ops[i]? = some oi) (hr : Region.ready md ops listed = [i]) (hg : oi.guard = none)
    (h : ∀ w, S listed a w → oi.wp P a w (fun a' w' => S (listed.setIfInBounds i true) a' w' ∧ wpAnyS P md ops Q S fuel (listed.setIfInBounds i true) a') Q) : wpAnyS P md ops Q S (fuel + 1) listed a := fun w hs =>
  ⟨fun h0 => (by rw [hr] at h0; cases h0), fun j hj => by
    rw [hr] at hj
    obtain rfl := List.mem_singleton.1 hj
    unfold wpOp
    simp only [hi, Region.wanted, hg, if_true]
    exact .inl (h w hs)⟩
theorem wpAnyS_done {fuel : Nat} {listed : Array Bool} {a : Act} (hr : Region.ready md ops listed = []) (h : ∀ w, S listed a w → Q .normal a w) : wpAnyS P md ops Q S fuel listed a := by
  cases fuel with
  | zero => exact fun w hs => ⟨hr, h w hs⟩
  | succ n => exact fun w hs => ⟨fun _ => h w hs, by rw [hr]; simp⟩
theorem wp_region_S {id : Nat} {a : Act} {w : World} (S : Array Bool → Act → World → Prop) (hm : P.follows .mixedOrders = true) (hs : S (Array.replicate ops.size false) a { w with drawn := w.drawn + 1 })
    (h : wpAnyS P .any ops Q S ops.size (Array.replicate ops.size false) a) : (Code.region id ops true).wp P Q a w :=
  wp_region_any hm (wpAny_of_S _ _ _ _ hs h)

/-- THE RELATION of a struct literal that is laid into a variable of its own: new blocks alone; once operation ia (the alloc) has come up, slot d points to the variable's block; once operation ib (the store) has come up, the block holds F. -/
def RS (w0 : World) (d ia ib : Nat) (t : TypeId) (Z F : Array Value) (l : Array Bool) (a : Act) (w : World) : Prop :=
  Gro none w0 w ∧ (l.getD ia false = true → ∃ g, a.tmps[d]? = some (.pointer (some ⟨g, 0, none⟩)) ∧ w0.heap.size ≤ g ∧ w.heap[g]? = some (.cells (if l.getD ib false = true then F else Z) t (0, 0)))
variable {w0 : World} {d ia ib : Nat} {t : TypeId} {Z F : Array Value}
theorem blk_in {w : World} {g : Nat} {o : Obj} (h : w.heap[g]? = some o) : g < w.heap.size := (Array.getElem?_eq_some_iff.1 h).1
theorem put_tmps (a : Act) (x : Nat) (v : Value) (d : Nat) (h : x ≠ d) : (a.put (some x) v).tmps[d]? = a.tmps[d]? := by
  simp [Act.put, Array.getElem?_setIfInBounds_ne h]
theorem RS.on {i x : Nat} {v : Value} (hx : x ≠ d) (h1 : i ≠ ia) (h2 : i ≠ ib) (l : Array Bool) (a : Act) (w : World) (_ : l.getD i true = false) : RS w0 d ia ib t Z F l a w → RS w0 d ia ib t Z F (l.setIfInBounds i true) (a.put (some x) v) w := by
  unfold RS
  rw [getD_set_ne false h1, getD_set_ne false h2, put_tmps a x v d hx]
  exact id
theorem RS.back {i x : Nat} {v : Value} (hx : x ≠ d) (h1 : i ≠ ia) (h2 : i ≠ ib) (l : Array Bool) (a : Act) (w : World) (_ : l.getD i true = false) : RS w0 d ia ib t Z F (l.setIfInBounds i true) (a.put (some x) v) w → RS w0 d ia ib t Z F l a w := by
  unfold RS
  rw [getD_set_ne false h1, getD_set_ne false h2, put_tmps a x v d hx]
  exact id
theorem RS.gro {l : Array Bool} {a : Act} {w w' : World} (h : RS w0 d ia ib t Z F l a w) (k : Gro none w w') : RS w0 d ia ib t Z F l a w' := by
  obtain ⟨h1, h2⟩ := h
  refine ⟨h1.trans k, fun hl => ?_⟩
  obtain ⟨g, h3, h4, h5⟩ := h2 hl
  exact ⟨g, h3, h4, (k.block g (blk_in h5) (by simp)).trans h5⟩
/-- An operation that yields in whatever world is calm. -/
theorem calm_yields {i x : Nat} {o : Oper} {v : Value} {a : Act} (hd : o.dst = some x) (hx : x ≠ d) (h1 : i ≠ ia) (h2 : i ≠ ib) (hg : o.guard = none) (hy : ∀ w, (execOp a.eval o).run P w = .ok (.value v) w) : Calm P ops Q (RS w0 d ia ib t Z F) i o v a := by
  refine .inl ⟨by simp [Region.wanted, hg], fun l a' w hl he hs => ?_⟩
  unfold Oper.wp
  rw [he, hy w]
  simp only [Oper.upon]
  rw [hd]
  exact ⟨trivial, RS.on hx h1 h2 l a' w hl hs⟩
/-- A call that makes at most blocks of its own and gives v is calm. -/
theorem calm_call {i x : Nat} {o : Oper} {v : Value} {a : Act} {f : Nat} {args : Array Value} (hd : o.dst = some x) (hx : x ≠ d) (h1 : i ≠ ia) (h2 : i ≠ ib) (hg : o.guard = none) (hy : ∀ w, (execOp a.eval o).run P w = .ok (.enter f args) w)
    (hc : ∀ w, Gro none w0 w → Calls P f args w fun e w' => e = .returned v ∧ Gro none w w') : Calm P ops Q (RS w0 d ia ib t Z F) i o v a := by
  refine .inl ⟨by simp [Region.wanted, hg], fun l a' w hl he hs => ?_⟩
  unfold Oper.wp
  rw [he, hy w]
  simp only [Oper.upon]
  refine Calls.mono (hc w hs.1) fun e w' ⟨he', hk⟩ => ?_
  subst he'
  simp only
  rw [hd]
  exact ⟨trivial, (RS.on hx h1 h2 l a' w hl hs).gro hk⟩
/-- An operation that yields in whatever world, taken first. -/
theorem takeY {i x ty : Nat} {op : Op} {pos : String} {after : Array Edge} {v : Value} {fuel : Nat} {listed : Array Bool} {a : Act} (hi : ops[i]? = some ⟨some x, op, ty, pos, after, none⟩)
    (hx : x ≠ d) (h1 : i ≠ ia) (h2 : i ≠ ib) (hs : Region.noSelect ops = true) (hf : Region.free md ops listed i = true) (hr : (Region.ready md ops listed).contains i = true)
    (hQ : ∀ c a w, Q (.panic c) (a.put (some x) v) w → Q (.panic c) a w) (hy : ∀ w, (execOp a.eval ⟨some x, op, ty, pos, after, none⟩).run P w = .ok (.value v) w)
    (h : wpAnyS P md ops Q (RS w0 d ia ib t Z F) fuel (listed.setIfInBounds i true) (a.put (some x) v)) : wpAnyS P md ops Q (RS w0 d ia ib t Z F) (fuel + 1) listed a :=
  wpAnyS_take hi hs hf hr hQ (RS.on hx h1 h2) (RS.back hx h1 h2) (calm_yields rfl hx h1 h2 rfl hy) h
/-- A call that makes at most blocks of its own, taken first. -/
theorem takeC {i x ty : Nat} {op : Op} {pos : String} {after : Array Edge} {v : Value} {fuel : Nat} {listed : Array Bool} {a : Act} (f : Nat) (args : Array Value) (hi : ops[i]? = some ⟨some x, op, ty, pos, after, none⟩)
    (hx : x ≠ d) (h1 : i ≠ ia) (h2 : i ≠ ib) (hs : Region.noSelect ops = true) (hf : Region.free md ops listed i = true) (hr : (Region.ready md ops listed).contains i = true)
    (hQ : ∀ c a w, Q (.panic c) (a.put (some x) v) w → Q (.panic c) a w) (hy : ∀ w, (execOp a.eval ⟨some x, op, ty, pos, after, none⟩).run P w = .ok (.enter f args) w)
    (hc : ∀ w, Gro none w0 w → Calls P f args w fun e w' => e = .returned v ∧ Gro none w w')
    (h : wpAnyS P md ops Q (RS w0 d ia ib t Z F) fuel (listed.setIfInBounds i true) (a.put (some x) v)) : wpAnyS P md ops Q (RS w0 d ia ib t Z F) (fuel + 1) listed a :=
  wpAnyS_take hi hs hf hr hQ (RS.on hx h1 h2) (RS.back hx h1 h2) (calm_call rfl hx h1 h2 rfl hy hc) h
theorem getD_set_eq {listed : Array Bool} {i : Nat} (h : i < listed.size) : (listed.setIfInBounds i true).getD i false = true := by
  simp [h]
/-- The alloc, once it alone may come up. -/
theorem takeA {ty : Nat} {op : Op} {pos : String} {after : Array Edge} {fuel : Nat} {listed : Array Bool} {a : Act} (hi : ops[ia]? = some ⟨some d, op, ty, pos, after, none⟩) (hr : Region.ready md ops listed = [ia])
    (hne : ia ≠ ib) (hlb : listed.getD ib false = false) (hd : d < a.tmps.size)
    (hy : ∀ w, (execOp a.eval ⟨some d, op, ty, pos, after, none⟩).run P w = .ok (.value (.pointer (some ⟨w.heap.size, 0, none⟩))) (w.alloc (.cells Z t)))
    (h : ∀ g, w0.heap.size ≤ g → wpAnyS P md ops Q (RS w0 d ia ib t Z F) fuel (listed.setIfInBounds ia true) (a.put (some d) (.pointer (some ⟨g, 0, none⟩)))) : wpAnyS P md ops Q (RS w0 d ia ib t Z F) (fuel + 1) listed a := by
  refine wpAnyS_one hi hr rfl fun w hs => ?_
  unfold Oper.wp
  rw [hy w]
  simp only [Oper.upon]
  refine ⟨⟨hs.1.alloc _, fun _ => ⟨w.heap.size, ?_, hs.1.size, ?_⟩⟩, h _ hs.1.size⟩
  · simp [Act.put, hd]
  · rw [getD_set_ne false hne, hlb]
    exact heap_alloc_new w _
/-- The store, the last of all. -/
theorem takeS {ty : Nat} {op : Op} {pos : String} {after : Array Edge} {fuel : Nat} {listed : Array Bool} {a : Act} {g : Nat} (hi : ops[ib]? = some ⟨none, op, ty, pos, after, none⟩) (hr : Region.ready md ops listed = [ib])
    (hne : ia ≠ ib) (hla : listed.getD ia false = true) (hlb : listed.getD ib false = false) (hsz : ib < listed.size) (hp : a.tmps[d]? = some (.pointer (some ⟨g, 0, none⟩)))
    (h : ∀ w, Gro none w0 w → w0.heap.size ≤ g → w.heap[g]? = some (.cells Z t (0, 0)) → ∃ w', (execOp a.eval ⟨none, op, ty, pos, after, none⟩).run P w = .ok .skip w' ∧ Gro none w0 w' ∧ w'.heap[g]? = some (.cells F t (0, 0)))
    (hdone : Region.ready md ops (listed.setIfInBounds ib true) = []) (hend : ∀ w, Gro none w0 w → w0.heap.size ≤ g → w.heap[g]? = some (.cells F t (0, 0)) → Q .normal a w) : wpAnyS P md ops Q (RS w0 d ia ib t Z F) (fuel + 1) listed a := by
  refine wpAnyS_one hi hr rfl fun w hs => ?_
  obtain ⟨g', h1, h2, h3⟩ := hs.2 hla
  rw [hp] at h1
  injection h1 with h1
  injection h1 with h1
  injection h1 with h1
  injection h1 with h1
  subst h1
  rw [hlb] at h3
  obtain ⟨w', e, h4, h5⟩ := h w hs.1 h2 h3
  unfold Oper.wp
  rw [e]
  simp only [Oper.upon]
  have hq : a.put none undef = a := rfl
  rw [hq]
  refine ⟨⟨h4, fun _ => ⟨g, hp, h2, ?_⟩⟩, ?_⟩
  · rw [getD_set_eq hsz]
    exact h5
  · refine wpAnyS_done hdone fun w'' hs' => ?_
    obtain ⟨g', h1, _, h6⟩ := hs'.2 (by rw [getD_set_ne false (Ne.symm hne)]; exact hla)
    rw [hp] at h1
    injection h1 with h1
    injection h1 with h1
    injection h1 with h1
    injection h1 with h1
    subst h1
    rw [getD_set_eq hsz] at h6
    exact hend w'' hs'.1 h2 h6
end
end Go.Proofs.YtiegcfgedhgpnaaDoor
