/- A region that draws its order, walked along a plan in which two operations may come up at once (both orders are walked). -/
import Derived.Deep.RegionHeld3
import Derived.Test.YtlhkochpokhncaaDoorHeld
namespace Go.Proofs.YtlhkochpokhncaaDoor

inductive Plan where
  | nil
  | take (i : Nat) (r : Plan)
  | step (i : Nat) (r : Plan)
  | fork (i : Nat) (r : Plan) (j : Nat) (q : Plan)
def Plan.len : Plan → Nat
  | .nil => 0
  | .take _ r => r.len + 1
  | .step _ r => r.len + 1
  | .fork _ r _ q => max r.len q.len + 1
/-- The plan's operations, written out. -/
inductive PlanO where
  | nil
  | take (o : Option Oper) (r : PlanO)
  | step (o : Option Oper) (r : PlanO)
  | fork (o : Option Oper) (r : PlanO) (u : Option Oper) (q : PlanO)
def Plan.ops (ops : Array Oper) : Plan → PlanO
  | .nil => .nil
  | .take i r => .take ops[i]? (r.ops ops)
  | .step i r => .step ops[i]? (r.ops ops)
  | .fork i r j q => .fork ops[i]? (r.ops ops) ops[j]? (q.ops ops)

section
variable {P : Program} {md : Region.Mode} {ops : Array Oper} {Q : Exit → Act → World → Prop} {S : World → Prop}
def checkTree (md : Region.Mode) (ops : Array Oper) : Plan → Array Bool → Bool
  | .nil, l => (Region.ready md ops l).isEmpty
  | .take i r, l => Region.noSelect ops && (Region.free md ops l i && ((Region.ready md ops l).contains i && checkTree md ops r (l.setIfInBounds i true)))
  | .step i r, l => decide (Region.ready md ops l = [i]) && checkTree md ops r (l.setIfInBounds i true)
  | .fork i r j q, l => decide (Region.ready md ops l = [i, j]) && (checkTree md ops r (l.setIfInBounds i true) && checkTree md ops q (l.setIfInBounds j true))
def wpTree (P : Program) (ops : Array Oper) (Q : Exit → Act → World → Prop) (S : World → Prop) : PlanO → Act → World → Prop
  | .nil, a, w => Q .normal a w
  | .take (some o) r, a, w => ∃ v, YieldsIf P ops S o v a ∧ wpTree P ops Q S r (a.put o.dst v) w
  | .step (some o) r, a, w => ∀ K : Act → World → Prop, Shut (∀ a w, S w → (S w → wpTree P ops Q S r a w) → K a w) → if Region.wanted o (yielded ops a.tmps) = true then Oper.wp P o a w K Q else K (a.put o.dst undef) w
  | .fork (some o) r (some u) q, a, w => (∀ K : Act → World → Prop, Shut (∀ a w, S w → (S w → wpTree P ops Q S r a w) → K a w) → if Region.wanted o (yielded ops a.tmps) = true then Oper.wp P o a w K Q else K (a.put o.dst undef) w) ∧
      ∀ K : Act → World → Prop, Shut (∀ a w, S w → (S w → wpTree P ops Q S q a w) → K a w) → if Region.wanted u (yielded ops a.tmps) = true then Oper.wp P u a w K Q else K (a.put u.dst undef) w
  | _, _, _ => False
theorem wpAnyH_of_tree (hQ : ∀ c a d v w, Q (.panic c) (Act.put a d v) w → Q (.panic c) a w) : ∀ (t : Plan) (fuel : Nat) (l : Array Bool) (a : Act) (w : World), checkTree md ops t l = true → t.len ≤ fuel → S w → wpTree P ops Q S (t.ops ops) a w → wpAnyH P md ops Q S fuel l a w
  | .nil, fuel, l, a, w, hc, _, _, h => wpAnyH_done (by simpa [checkTree] using hc) h fuel
  | .take i r, 0, l, a, w, _, hf, _, _ => by simp [Plan.len] at hf
  | .step i r, 0, l, a, w, _, hf, _, _ => by simp [Plan.len] at hf
  | .fork i r j q, 0, l, a, w, _, hf, _, _ => by simp [Plan.len] at hf
  | .take i r, fuel + 1, l, a, w, hc, hf, hS, h => by
    change wpTree P ops Q S (.take ops[i]? (r.ops ops)) a w at h
    cases ho : ops[i]? with
    | none => rw [ho] at h; exact h.elim
    | some o =>
      rw [ho] at h
      obtain ⟨v, hy, h2⟩ := h
      simp only [checkTree, Bool.and_eq_true] at hc
      obtain ⟨c1, c2, c3, c4⟩ := hc
      exact wpAnyH_take ho c1 c2 c3 (fun c a w => hQ c a _ _ w) hy hS (wpAnyH_of_tree hQ r fuel _ _ _ c4 (by simpa [Plan.len] using hf) hS h2)
  | .step i r, fuel + 1, l, a, w, hc, hf, hS, h => by
    change wpTree P ops Q S (.step ops[i]? (r.ops ops)) a w at h
    cases ho : ops[i]? with
    | none => rw [ho] at h; exact h.elim
    | some o =>
      rw [ho] at h
      simp only [checkTree, Bool.and_eq_true, decide_eq_true_eq] at hc
      exact wpAnyH_ready hc.1 (by simp) (AllReadyH.cons ho (fun K hK => h K fun a' w' hS' hW => hK a' w' hS' fun hS2 => wpAnyH_of_tree hQ r fuel _ _ _ hc.2 (by simpa [Plan.len] using hf) hS2 (hW hS2)) AllReadyH.nil)
  | .fork i r j q, fuel + 1, l, a, w, hc, hf, hS, h => by
    change wpTree P ops Q S (.fork ops[i]? (r.ops ops) ops[j]? (q.ops ops)) a w at h
    have hl : r.len ≤ fuel ∧ q.len ≤ fuel := by simp only [Plan.len] at hf; omega
    cases ho : ops[i]? with
    | none => rw [ho] at h; exact h.elim
    | some o =>
      cases hu : ops[j]? with
      | none => rw [ho, hu] at h; exact h.elim
      | some u =>
        rw [ho, hu] at h
        simp only [checkTree, Bool.and_eq_true, decide_eq_true_eq] at hc
        exact wpAnyH_ready hc.1 (by simp) (AllReadyH.cons ho (fun K hK => h.1 K fun a' w' hS' hW => hK a' w' hS' fun hS2 => wpAnyH_of_tree hQ r fuel _ _ _ hc.2.1 hl.1 hS2 (hW hS2))
          (AllReadyH.cons hu (fun K hK => h.2 K fun a' w' hS' hW => hK a' w' hS' fun hS2 => wpAnyH_of_tree hQ q fuel _ _ _ hc.2.2 hl.2 hS2 (hW hS2)) AllReadyH.nil))
theorem region_tree (t : Plan) {id : Nat} {a : Act} {w : World} (hm : P.follows .mixedOrders = true)
    (hc : checkTree .any ops t (Array.replicate ops.size false) = true) (hl : decide (t.len ≤ ops.size) = true) (hS : S w.drew) (h : wpTree P ops (NoPanic Q) S (t.ops ops) a w.drew) : (Code.region id ops true).wp P Q a w :=
  wp_region_noPanic (wp_region_held_drew hm hS fun hS => wpAnyH_of_tree (fun _ _ _ _ _ h => h) t _ _ _ _ hc (of_decide_eq_true hl) hS h)
theorem tree_yes {r : PlanO} {o : Oper} {v : Value} {a : Act} {w : World} (hw : Region.wanted o (yielded ops a.tmps) = true) (hv : ∀ w, S w → (execOp a.eval o).run P w = .ok (.value v) w)
    (h : wpTree P ops Q S r (a.put o.dst v) w) : wpTree P ops Q S (.take (some o) r) a w := ⟨v, .inl ⟨hw, hv⟩, h⟩
theorem tree_no {r : PlanO} {o : Oper} {a : Act} {w : World} (hw : Region.wanted o (yielded ops a.tmps) = false)
    (h : wpTree P ops Q S r (a.put o.dst undef) w) : wpTree P ops Q S (.take (some o) r) a w := ⟨undef, .inr ⟨hw, rfl⟩, h⟩
theorem tree_step {r : PlanO} {o : Oper} {a : Act} {w : World}
    (h : ∀ K : Act → World → Prop, Shut (∀ a w, S w → (S w → wpTree P ops Q S r a w) → K a w) → if Region.wanted o (yielded ops a.tmps) = true then Oper.wp P o a w K Q else K (a.put o.dst undef) w) : wpTree P ops Q S (.step (some o) r) a w := h
theorem tree_fork {r q : PlanO} {o u : Oper} {a : Act} {w : World}
    (h : ∀ K : Act → World → Prop, Shut (∀ a w, S w → (S w → wpTree P ops Q S r a w) → K a w) → if Region.wanted o (yielded ops a.tmps) = true then Oper.wp P o a w K Q else K (a.put o.dst undef) w)
    (h2 : ∀ K : Act → World → Prop, Shut (∀ a w, S w → (S w → wpTree P ops Q S q a w) → K a w) → if Region.wanted u (yielded ops a.tmps) = true then Oper.wp P u a w K Q else K (a.put u.dst undef) w) : wpTree P ops Q S (.fork (some o) r (some u) q) a w := ⟨h, h2⟩
theorem tree_done {a : Act} {w : World} (h : Q .normal a w) : wpTree P ops (NoPanic Q) S .nil a w := NoPanic.normal h
end
end Go.Proofs.YtlhkochpokhncaaDoor
