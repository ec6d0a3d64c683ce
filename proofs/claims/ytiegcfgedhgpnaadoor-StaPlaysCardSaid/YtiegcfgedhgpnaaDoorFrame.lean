/-
  THE FRAME OF A LAW's PROOF: from 'it returned true, and nothing that was there before the call has turned' to what the row asks. No condition beyond what each theorem states.
-/
import Derived.Test.YtiegcfgedhgpnaaDoorBase
import Derived.ProofKit
import Derived.LaidMore
import Derived.OpenShut
import Derived.Stop.Joined
import Derived.Stop.LaidErr
import Derived.SevenTiedAt
namespace Go.Proofs.YtiegcfgedhgpnaaDoor
open Go.ChangeShapes Go.WideShapes Go.ChangeAt Go.WideMaps Go.WideElems Go.RowKit

theorem own : ownKnob Tryd.prog.godebug = none := by kernel_rfl
theorem laidOut : laidOutB Tryd.prog = true := by kernel_rfl

theorem Far.same {W w' : World} (h : Far W.heap.size W w') {p : MemPlace} (hp : p.block < W.heap.size) : W.sameAt w' p := by
  cases p with
  | cell b o => exact World.cell?_of_block (w := W) (h.block b hp)
  | map b => exact h.block b hp

/-- Of arguments that could be read every one reads as it did. -/
theorem trodAll_far {H : Type} {enc : TypeId × Value → H} {P : Program} (hl : laidOutB P = true) {W W' : World} (hf : Far W.heap.size W W') :
    ∀ (ts : List TypeId) (vs : List Value) (ds : List (DataW H)) (p : List MemPlace), (∀ t ∈ ts, P.readableRec t = true ∧ t < P.types.size) → (∀ x ∈ p, x.block < W.heap.size) →
      DataW.TrodAll enc P W 0 (fun _ => true) true ts vs ds p → DataW.TrodAll enc P W' 0 (fun b => decide (b < W.heap.size)) true ts vs ds p := by
  intro ts
  induction ts with
  | nil =>
    intro vs ds p _ _ h
    obtain ⟨rfl, rfl, rfl⟩ := trodAll_nil h
    exact trodAll_mk0
  | cons t ts ih =>
    intro vs ds p hr hlt h
    obtain ⟨v0, vs0, d0, ds0, p0, q0, rfl, rfl, rfl, h0, r0⟩ := trodAll_cons h
    refine trodAll_cons_mk ?_ (ih _ _ _ (fun t ht => hr t (List.mem_cons_of_mem _ ht)) (fun x hx => hlt x (List.mem_append_right _ hx)) r0)
    exact WideElems.Trod_stays hl (hr t (List.mem_cons_self)).1 (hr t (List.mem_cons_self)).2 h0 (fun x hx => hf.same (hlt x (List.mem_append_left _ hx))) (fun x hx => by simpa using hlt x (List.mem_append_left _ hx))

/-- A SLICE OF INTEGERS THAT CAME IN: its length is small, and each of its cells is there. -/
theorem ints_args {H : Type} {enc : TypeId × Value → H} {P : Program} {t e : TypeId} {W : World} {pa : Option Addr} {len cap : Nat} {d : DataW H} {p : List MemPlace} (ht : P.underlying t = some (.slice e)) (he : P.underlying e = some (.int .i64)) (hc : P.cellsOf e = 1)
    (h : DataW.Trod enc P W 0 (fun _ => true) true t (.slice pa len cap) d p) :
    ∃ zs : Nat → Int, len ≤ 9223372036854775807 ∧ ∀ k, k < len → ∃ lb off, pa = some ⟨lb, off, none⟩ ∧ W.cell? ⟨lb, off + k, none⟩ = some (.int .i64 (zs k)) ∧ -9223372036854775808 ≤ zs k ∧ zs k ≤ 9223372036854775807 := by
  obtain ⟨fuel, hf⟩ := h
  rcases open_ints ht he hc hf with ⟨hcs, _⟩ | ⟨a, len', cap', zs, hcs, _, hl, hm, hz, _, hcell, hwz⟩
  · simp [Value.cells] at hcs
    obtain ⟨rfl, rfl, rfl⟩ := hcs
    exact ⟨fun _ => 0, by decide, fun k hk => by omega⟩
  · simp [Value.cells] at hcs
    obtain ⟨rfl, rfl, rfl⟩ := hcs
    have hz' : zs.length = cap := by simpa using hz
    refine ⟨fun k => zs.getD k 0, by unfold maxLen at hm; omega, fun k hk => ?_⟩
    have hck := hcell k (by omega)
    obtain ⟨lb, off, s⟩ := a
    have hs : s = none := by
      cases s with
      | none => rfl
      | some x =>
        have h0 := hcell 0 (by omega)
        have hadd : (⟨lb, off, some x⟩ : Addr).add 0 = ⟨lb, off, some x⟩ := by simp [Addr.add]
        rw [hadd] at h0
        simp only [World.cell?] at h0
        split at h0 <;> simp at h0
    subst hs
    have hadd : (⟨lb, off, none⟩ : Addr).add k = ⟨lb, off + k, none⟩ := by unfold Addr.add; split <;> simp_all
    rw [hadd] at hck
    have hmem : zs.getD k 0 ∈ zs := by
      rw [List.getD_eq_getElem?_getD, List.getElem?_eq_getElem (by omega)]
      exact List.getElem_mem _
    have hw := hwz _ hmem
    simp [Lit.wf, IntKind.min, IntKind.max, IntKind.signed, IntKind.bits] at hw
    exact ⟨lb, off, rfl, hck, by simp; omega, by simp; omega⟩

/-- A STRUCT OR AN ARRAY BY VALUE, cell by cell. -/
theorem agg_open {P : Program} {W : World} {r : Reach} {base : Nat} {t : TypeId} {v : Value} {d : TypeDesc} (ts : List TypeId) (hu : P.underlying t = some d) (hd : (match d with | .struct _ | .array _ _ => true | _ => false) = true)
    (hts : P.cellTypes P.depth t = some ts) (hsz : P.cellsOf t = ts.length) (h : Value.okWide P W r base t v) :
    ∃ cs : List Value, v = .agg cs.toArray ∧ cs.length = ts.length ∧ ∀ (i : Nat) (u : TypeId), ts[i]? = some u → ∃ x, cs[i]? = some x ∧ Cell.okWide P W r base u x := by
  have h' : ∃ cs, v = .agg cs ∧ cs.size = P.cellsOf t ∧ Row.okWide P W r base t cs := by
    unfold Value.okWide at h
    rw [hu] at h
    cases d <;> first | exact h | simp at hd
  obtain ⟨⟨cs⟩, rfl, hs, ts', hts', _, hc⟩ := h'
  rw [hts] at hts'
  obtain rfl := Option.some.inj hts'
  rw [hsz] at hs
  simp at hs
  refine ⟨cs, rfl, hs, fun i u hu => ?_⟩
  have hi : i < ts.length := (List.getElem?_eq_some_iff.1 hu).1
  have hx : cs[i]? = some (cs[i]'(by omega)) := List.getElem?_eq_getElem (by omega)
  obtain ⟨u', hu', hk⟩ := hc i _ (by rw [List.getElem?_toArray]; exact hx)
  rw [Nat.mod_eq_of_lt hi, hu] at hu'
  obtain rfl := Option.some.inj hu'
  exact ⟨_, hx, hk⟩
theorem cell_bool {P : Program} {W : World} {r : Reach} {base : Nat} {u : TypeId} {x : Value} (hu : P.underlying u = some .bool) (h : Cell.okWide P W r base u x) : ∃ b : Bool, x = .bool b := by
  unfold Cell.okWide Cell.ok at h
  rw [hu] at h
  cases x <;> simp at h
  exact ⟨_, rfl⟩
theorem cell_int {P : Program} {W : World} {r : Reach} {base : Nat} {u : TypeId} {x : Value} {k : IntKind} (hu : P.underlying u = some (.int k)) (h : Cell.okWide P W r base u x) : ∃ n : Int, x = .int k n ∧ k.has n := by
  unfold Cell.okWide Cell.ok at h
  rw [hu] at h
  cases x <;> simp at h
  obtain ⟨rfl, h⟩ := h
  exact ⟨_, rfl, h⟩

/-- THE POST OF A LAW. -/
theorem law_post {H : Type} {enc : TypeId × Value → H} {f : Func} {s : ChangeSpec} {W W' : World} {args : Array Value} {ds : List (DataW H)} {before : List MemPlace}
    (hW : DataW.Whole enc Tryd.prog f.params.toList s.vars false W args.toList ds [] before) (hs : s.fn H (ds ++ []) = { results := [.lit (.bool true)], args := ds }) (hv : s.vars = [])
    (hr : f.resultTypes = #[4]) (hread : ∀ t ∈ f.params.toList, Tryd.prog.readableRec t = true ∧ t < Tryd.prog.types.size) (hk : Far W.heap.size W W') :
    s.post enc Tryd.prog f false true false false W args (.bool true) W' := by
  have hlt := fun p hp => hW.lt p hp
  have hW0 := hW
  obtain ⟨p, q, hA, hV, rfl, hfz, hnd⟩ := hW
  rw [hv] at hV
  obtain ⟨_, rfl⟩ := trodVars_none hV
  refine ⟨ds, [], _, [], p, [], hW0, ?_, ?_, ?_, hk.frame _, fun h => by cases h⟩
  · rw [hr, hs]
    exact trodAll_mk1 (shut_bool Tryd.underlying4 true)
  · rw [hs]
    exact trodAll_far laidOut hk _ _ _ _ hread (fun x hx => hlt x (List.mem_append_left _ hx)) hA
  · rw [hs, hv]
    rfl

end Go.Proofs.YtiegcfgedhgpnaaDoor
