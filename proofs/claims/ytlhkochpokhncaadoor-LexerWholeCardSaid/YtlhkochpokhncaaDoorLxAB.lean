/- same, walked. -/
import Derived.Test.YtlhkochpokhncaaDoorLxAA
namespace Go.Proofs.YtlhkochpokhncaaDoor.Lexer
open Go.RowKit Go.Proofs.YtlhkochpokhncaaDoor Go.Proofs.YtlhkochpokhncaaDoor.Hp
set_option linter.unusedVariables false
attribute [local go_sem] Oper.semAt_some

set_option maxRecDepth 100000 in
set_option maxHeartbeats 8000000 in
theorem same_calls (t : Tok) (w : World) : Calls Tryd.prog 12 #[tokV t, tokV t] w (BPost true w) := by
  obtain ⟨kd, tx, ta, ts⟩ := t
  go_enter Tryd.func12, Tryd.ntmps12
  go_wp2_with fail
  go_ret
  exact ⟨rfl, Below.alloc (Below.alloc (Below.refl _ _) (Nat.le_refl _) _) (by rw [World.size_alloc]; exact Nat.le_succ _) _⟩
end Go.Proofs.YtlhkochpokhncaaDoor.Lexer
