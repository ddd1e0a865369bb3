/- A region that draws its order, walked along a plan: what yields its value in every world that meets S (or is not wanted) is taken first, whatever else comes up comes up alone. -/
import Derived.Deep.RegionHeld3
namespace Go.Proofs.YtlhkochpokhncaaDoor

section
variable {P : Program} {md : Region.Mode} {ops : Array Oper} {Q : Exit → Act → World → Prop} {S : World → Prop}

/-- May the operations come up in this order, those marked 'true' taken ahead of others, the others alone? -/
def checkPlan (md : Region.Mode) (ops : Array Oper) : List (Nat × Bool) → Array Bool → Bool
  | [], l => (Region.ready md ops l).isEmpty
  | (i, true) :: r, l => Region.noSelect ops && (Region.free md ops l i && ((Region.ready md ops l).contains i && checkPlan md ops r (l.setIfInBounds i true)))
  | (i, false) :: r, l => decide (Region.ready md ops l = [i]) && checkPlan md ops r (l.setIfInBounds i true)

/-- The plan's operations, written out. -/
def planOps (ops : Array Oper) (plan : List (Nat × Bool)) : List (Bool × Option Oper) := plan.map fun x => (x.2, ops[x.1]?)
def wpPlan (P : Program) (ops : Array Oper) (Q : Exit → Act → World → Prop) (S : World → Prop) : List (Bool × Option Oper) → Act → World → Prop
  | [], a, w => Q .normal a w
  | (_, none) :: _, _, _ => False
  | (true, some o) :: r, a, w => ∃ v, YieldsIf P ops S o v a ∧ wpPlan P ops Q S r (a.put o.dst v) w
  | (false, some o) :: r, a, w => ∀ K : Act → World → Prop, Shut (∀ a w, S w → (S w → wpPlan P ops Q S r a w) → K a w) → if Region.wanted o (yielded ops a.tmps) = true then Oper.wp P o a w K Q else K (a.put o.dst undef) w

theorem wpAnyH_of_plan (hQ : ∀ c a d v w, Q (.panic c) (Act.put a d v) w → Q (.panic c) a w) : ∀ (plan : List (Nat × Bool)) (fuel : Nat) (l : Array Bool) (a : Act) (w : World), checkPlan md ops plan l = true → plan.length ≤ fuel → S w → wpPlan P ops Q S (planOps ops plan) a w → wpAnyH P md ops Q S fuel l a w
  | [], fuel, l, a, w, hc, _, _, h => wpAnyH_done (by simpa [checkPlan] using hc) h fuel
  | (i, b) :: r, 0, l, a, w, _, hf, _, _ => by simp at hf
  | (i, b) :: r, fuel + 1, l, a, w, hc, hf, hS, h => by
    change wpPlan P ops Q S ((b, ops[i]?) :: planOps ops r) a w at h
    cases ho : ops[i]? with
    | none => rw [ho] at h; cases b <;> exact h.elim
    | some o =>
      rw [ho] at h
      cases b with
      | true =>
        obtain ⟨v, hy, h2⟩ := h
        simp only [checkPlan, Bool.and_eq_true] at hc
        obtain ⟨c1, c2, c3, c4⟩ := hc
        exact wpAnyH_take ho c1 c2 c3 (fun c a w => hQ c a _ _ w) hy hS (wpAnyH_of_plan hQ r fuel _ _ _ c4 (by simpa using hf) hS h2)
      | false =>
        simp only [checkPlan, Bool.and_eq_true, decide_eq_true_eq] at hc
        refine wpAnyH_ready hc.1 (by simp) (AllReadyH.cons ho (fun K hK => h K fun a' w' hS' hW => hK a' w' hS' fun hS2 => wpAnyH_of_plan hQ r fuel _ _ _ hc.2 (by simpa using hf) hS2 (hW hS2)) AllReadyH.nil)

theorem region_plan (plan : List (Nat × Bool)) {id : Nat} {a : Act} {w : World} (hm : P.follows .mixedOrders = true)
    (hc : checkPlan .any ops plan (Array.replicate ops.size false) = true) (hl : decide (plan.length ≤ ops.size) = true) (hS : S w.drew) (h : wpPlan P ops (NoPanic Q) S (planOps ops plan) a w.drew) : (Code.region id ops true).wp P Q a w :=
  wp_region_noPanic (wp_region_held_drew hm hS fun hS => wpAnyH_of_plan (fun _ _ _ _ _ h => h) plan _ _ _ _ hc (of_decide_eq_true hl) hS h)

theorem plan_yes {r : List (Bool × Option Oper)} {o : Oper} {v : Value} {a : Act} {w : World} (hw : Region.wanted o (yielded ops a.tmps) = true) (hv : ∀ w, S w → (execOp a.eval o).run P w = .ok (.value v) w)
    (h : wpPlan P ops Q S r (a.put o.dst v) w) : wpPlan P ops Q S ((true, some o) :: r) a w := ⟨v, .inl ⟨hw, hv⟩, h⟩
theorem plan_no {r : List (Bool × Option Oper)} {o : Oper} {a : Act} {w : World} (hw : Region.wanted o (yielded ops a.tmps) = false)
    (h : wpPlan P ops Q S r (a.put o.dst undef) w) : wpPlan P ops Q S ((true, some o) :: r) a w := ⟨undef, .inr ⟨hw, rfl⟩, h⟩
theorem plan_step {r : List (Bool × Option Oper)} {o : Oper} {a : Act} {w : World}
    (h : ∀ K : Act → World → Prop, Shut (∀ a w, S w → (S w → wpPlan P ops Q S r a w) → K a w) → if Region.wanted o (yielded ops a.tmps) = true then Oper.wp P o a w K Q else K (a.put o.dst undef) w) : wpPlan P ops Q S ((false, some o) :: r) a w := h
theorem plan_done {a : Act} {w : World} (h : Q .normal a w) : wpPlan P ops (NoPanic Q) S [] a w := NoPanic.normal h
end
end Go.Proofs.YtlhkochpokhncaaDoor
