/- A range over a function whose iterator leaves other things in its memory than it found. -/
import Derived.Test.YtlhkochpokhncaaDoorRange
namespace Go.Proofs.YtlhkochpokhncaaDoor
open Go.RowKit Hp
set_option linter.unusedVariables false

/-- A function that hands xs on, one by one, to a body that goes on each time; J: what the body holds; R: what the function owns ahead of it, R' behind it. -/
def IterSatW {α : Type} (P : Program) (n : Nat) (gf : Nat) (lb : Array Value) (encs : α → Array Value) (xs : List α) (R R' : Hp) : Prop :=
  ∀ (l : Nat) (J : List α → Hp) (W : World), Sat W (J [] * R) →
    (∀ pre x post (S : Hp) W1, xs = pre ++ x :: post → Sat W1 (J pre * S) → YieldAt Fence.wide (n - 1) P l (encs x) W1 fun e W' => e = .returned (.bool true) ∧ Sat W' (J (pre ++ [x]) * S) ∧ Ran W1 W') →
    CallsIn Fence.wide n P gf (#[.func (.yield l) #[] #[]] ++ lb) W fun e W' => (∃ v, e = .returned v) ∧ Sat W' (J xs * R') ∧ Ran W W'
theorem wp_rangeFunc_satW {α : Type} {P : Program} {g : Operand} {ps : Array Tmp} {assign body : Code} {Q : Exit → Act → World → Prop} {a : Act} {w : World} {n : Nat}
    {gf : Nat} {lb : Array Value} (hg : a.eval g = .func (.func gf) #[] lb) (eg : ∀ args w, (callFunc gf args).run P w = .ok (.enter gf args) w)
    {encs : α → Array Value} {xs : List α} {R R' : Hp} (hit : IterSatW P n gf lb encs xs R R') (hps : ∀ x, (encs x).size = ps.size)
    (I : List α → Hp) (h0 : Sat w (I [] * R)) (o₁ : α → Obj) (a₁ : α → Nat → Act)
    (hassign : ∀ (l : Nat) (x : α) (W : World) (K : Act → World → Prop), K (a₁ x W.heap.size) (W.alloc (o₁ x)) →
      assign.wpIn (Fence.wide.inRound l) (n - 1) P (Exit.then K (fun _ _ _ => False)) { tmps := (ps.zip (encs x)).foldl (fun t (p, v) => t.setIfInBounds p v) a.tmps, defers := [] } W)
    (hbody : ∀ (l : Nat) (pre : List α) (x : α) (post : List α) (S : Hp) (W : World) (b : Nat), xs = pre ++ x :: post → Sat W (pts b (o₁ x) * (I pre * S)) →
      body.wpIn (Fence.wide.inRound l) (n - 1) P (fun e _ W' => e = .normal ∧ Sat W' (I (pre ++ [x]) * S) ∧ Ran W W') (a₁ x b) W)
    (hdone : ∀ (D : Nat) (W : World), Sat W (I xs * R' * pts D (.deferred (some []))) → Ran w W → Q .normal { a with defers := { target := .collected D, args := #[] } :: a.defers } W) :
    (Code.rangeFunc g ps assign body).wp P Q a w := by
  refine (wpIn_wide (n := n + 1)).1 (wpIn_rangeFunc ?_)
  intro fn hfn
  obtain ⟨rec, hrec⟩ : ∃ rec : LoopState → Option Code → Loop, rec = fun st pe => { state := st, pending := pe, fn, tmps := a.tmps, params := ps, assign, body, defers := w.heap.size } := ⟨_, rfl⟩
  obtain ⟨W1, hW1⟩ : ∃ W1, (w.alloc (.deferred (some []))).alloc (.loop (rec .ready none)) = W1 := ⟨_, rfl⟩
  have hS1 : Sat W1 (pts (w.heap.size + 1) (.loop (rec .ready none)) * (pts w.heap.size (.deferred (some [])) * (I [] * R))) := by
    rw [← hW1]
    have := (h0.alloc (.deferred (some []))).alloc (.loop (rec .ready none))
    rwa [World.size_alloc] at this
  have hR1 : Ran w W1 := by rw [← hW1]; exact Ran.new (Ran.new (Below.refl _ _) _) _
  refine ⟨w.heap.size + 1, [{ target := .collected w.heap.size, args := #[] }], W1, { target := .fn (.func gf) lb, args := #[.func (.yield (w.heap.size + 1)) #[] #[]] }, W1, gf,
    #[.func (.yield (w.heap.size + 1)) #[] #[]] ++ lb, W1, ?_, ?_, ?_, ?_, ?_, ?_⟩
  · rw [← hW1, hrec]; exact run_enterLoop_outer _ _ _ _ _
  · simp only [resolve, hg]
    simp [go_sem]
  · intro f' hf'; exact trivial
  · simp [invoke, go_sem, eg]
  · intro h; cases h
  · refine (hit (w.heap.size + 1) (fun pre => I pre * (pts (w.heap.size + 1) (.loop (rec .ready none)) * pts w.heap.size (.deferred (some [])))) W1 (hS1.perm (by ac_rfl)) ?_).mono ?_
    · rintro pre x post S W hx hs
      have hl : Sat W (pts (w.heap.size + 1) (.loop (rec .ready none)) * (I pre * (pts w.heap.size (.deferred (some [])) * S))) := hs.perm (by ac_rfl)
      have hy := run_yield (P := P) (args := encs x) hl.get (by rw [hrec]; exact hps x)
      rw [hrec] at hy
      have hlA := hl.old (o₁ x)
      have hb0 : Sat (W.alloc (o₁ x)) (pts W.heap.size (o₁ x) * (pts (w.heap.size + 1) (.loop (rec .ready none)) * (I pre * (pts w.heap.size (.deferred (some [])) * S)))) := hl.alloc (o₁ x)
      refine ⟨fn, _, assign, body, hy, roundIn_of_wpIn hfn (hassign _ x W _ ⟨_, run_beginRound hlA.get (by rw [hrec]), ?_⟩)⟩
      have hl2 := (hb0.perm (show _ = pts (w.heap.size + 1) (.loop (rec .ready none)) * (pts W.heap.size (o₁ x) * (I pre * (pts w.heap.size (.deferred (some [])) * S))) by ac_rfl)).putObj (.loop { rec .ready none with state := .busy })
      have hr2 : Ran W ((W.alloc (o₁ x)).putObj (w.heap.size + 1) (.loop { rec .ready none with state := .busy })) := Ran.putObj (Ran.new (Below.refl _ _) _) _ _
      refine wpIn_mono (hbody _ pre x post _ _ W.heap.size hx (hl2.perm (show _ = pts W.heap.size (o₁ x) * (I pre * (pts (w.heap.size + 1) (.loop { rec .ready none with state := .busy }) * (pts w.heap.size (.deferred (some [])) * S))) by ac_rfl))) ?_
      rintro e a3 W3 ⟨rfl, hs3, hr3⟩
      have hl3 := hs3.perm (show _ = pts (w.heap.size + 1) (.loop { rec .ready none with state := .busy }) * (I (pre ++ [x]) * (pts w.heap.size (.deferred (some [])) * S)) by ac_rfl)
      have hend := run_endRound (P := P) none hl3.get
      have hl4 := hl3.putObj (.loop (rec .ready none))
      rw [hrec] at hend hl4
      refine ⟨_, _, hend, rfl, ?_, Ran.putObj (Below.trans hr2 hr3) _ _⟩
      rw [hrec]
      exact hl4.perm (by ac_rfl)
    · rintro e W2 ⟨⟨v, rfl⟩, hs, hr⟩
      have hl : Sat W2 (pts (w.heap.size + 1) (.loop (rec .ready none)) * (I xs * R' * pts w.heap.size (.deferred (some [])))) := hs.perm (by ac_rfl)
      have hend := run_endLoop (P := P) hl.get (by rw [hrec]; simp)
      have hl2 := (hl.putObj (.loop { rec .ready none with state := .exhausted })).right
      rw [hrec] at hend hl2
      exact ⟨none, _, hend, hdone w.heap.size _ hl2 (Ran.putObj (Below.trans hR1 hr) _ _)⟩

end Go.Proofs.YtlhkochpokhncaaDoor
