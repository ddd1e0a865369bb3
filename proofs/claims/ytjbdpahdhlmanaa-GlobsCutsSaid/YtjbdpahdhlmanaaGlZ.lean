/- Plain: what the shortest and the longest cut tell of each cut. -/
import Derived.Test.YtjbdpahdhlmanaaGlY
namespace Go.Proofs.Ytjbdpahdhlmanaa.Globs
set_option linter.unusedVariables false

theorem atL_hit {f : Nat → Bool} {lg : Bool} {m n : Nat} (hn : n < m) (hv : f n = true) : 0 ≤ atL f lg m ∧ (lg = true → (n : Int) ≤ atL f lg m) ∧ (lg = false → atL f lg m ≤ n) := by
  induction m with
  | zero => omega
  | succ m ih =>
    have hb := atL_bd f lg m
    rw [atL_succ]
    by_cases e : n = m
    · subst e
      split
      · exact ⟨by omega, fun _ => Int.le_refl _, fun _ => Int.le_refl _⟩
      · rename_i hc
        rw [hv, Bool.and_true, Bool.or_eq_true, not_or, decide_eq_true_eq] at hc
        exact ⟨by omega, fun h => absurd h hc.1, fun _ => by omega⟩
    · have h := ih (by omega)
      split
      · rename_i hc
        rw [Bool.and_eq_true, Bool.or_eq_true, decide_eq_true_eq] at hc
        refine ⟨by omega, fun _ => by omega, fun hl => ?_⟩
        rcases hc.1 with h2 | h2
        · rw [hl] at h2; cases h2
        · omega
      · exact h
theorem atL_at {f : Nat → Bool} {lg : Bool} {m n : Nat} (h : atL f lg m = n) : f n = true := by
  induction m with
  | zero => simp only [atL] at h; omega
  | succ m ih =>
    rw [atL_succ] at h
    split at h
    · rename_i hc
      rw [Bool.and_eq_true] at hc
      obtain rfl : m = n := by omega
      exact hc.2
    · exact ih h
end Go.Proofs.Ytjbdpahdhlmanaa.Globs
