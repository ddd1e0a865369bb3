/- texts walked: are two lists of texts the same? -/
import Derived.Test.YtlmjidandjemjaaGreatDoorStO
namespace Go.Proofs.YtlmjidandjemjaaGreatDoor.State
open Go.RowKit Go.Proofs.YtlmjidandjemjaaGreatDoor Go.Proofs.YtlmjidandjemjaaGreatDoor.Hp Go.Proofs.YtlmjidandjemjaaGreatDoor.Undo
set_option linter.unusedVariables false
attribute [local go_sem] Oper.semAt_some

theorem toList_eq_iff (a b : ByteArray) : (a.toList == b.toList) = decide (a = b) := by
  rw [tol a b.toList, ByteArray.toList_eq]
def TxRel (a b : List ByteArray) (w : World) (g : Nat) (v5 : Value) (wr : World) : Prop :=
  ∃ i k : Nat, v5 = .int .i64 (i : Int) ∧ i + g = a.length ∧ decide (a.drop i = b.drop i) = decide (a = b) ∧ wr = w.drewN k
set_option maxRecDepth 100000 in
set_option maxHeartbeats 4000000 in
theorem texts_calls (a b : List ByteArray) (p q : Option Addr) (pc qc : Nat) (w : World) (hp : StrsAt w p a) (hq : StrsAt w q b) (ha : a.length ≤ 9223372036854775807) (hb : b.length ≤ 9223372036854775807) :
    Calls Tryz.prog 12 #[.slice p a.length pc, .slice q b.length qc] w fun e w' => e = .returned (.bool (decide (a = b))) ∧ Below w.heap.size w w' := by
  obtain ⟨r, hr⟩ : ∃ r, r = decide (a = b) := ⟨_, rfl⟩
  rw [← hr]
  have HR := Lib.hid hr
  have HP := Lib.hid hp
  have HQ := Lib.hid hq
  have haI : (a.length : Int) ≤ 9223372036854775807 := by omega
  have hbI : (b.length : Int) ≤ 9223372036854775807 := by omega
  by_cases hl : a.length = b.length
  · have hlI : ((a.length : Int) == (b.length : Int)) = true := by rw [beq_iff_eq]; omega
    have Hl := Lib.hid hl
    clear hr hp hq ha hb hl
    go_enter Tryz.func12, Tryz.ntmps12
    go_wp2_with fail
    go_loopg [5] (a.length) (TxRel a b w)
    case atStart => exact ⟨0, 0, rfl, by omega, by rw [List.drop_zero, List.drop_zero], rfl⟩
    case round =>
      obtain ⟨i, k, rfl, hg, hall, rfl⟩ := hrel
      rw [← HR.out] at hall
      by_cases hlt : i < a.length
      · have hltI : (i : Int) < a.length := by omega
        have hlt2 : i < b.length := by rw [← Hl.out]; exact hlt
        have hltI2 : (i : Int) < b.length := by omega
        have hi0 : (0 : Int) ≤ i := by omega
        rcases HP.out with he | ⟨b1, o1, rfl, hc1⟩
        · rw [he] at hlt; exact absurd hlt (Nat.not_lt_zero _)
        rcases HQ.out with he | ⟨b2, o2, rfl, hc2⟩
        · rw [he] at hlt2; exact absurd hlt2 (Nat.not_lt_zero _)
        have e1 := hc1 i hlt
        have e2 := hc2 i hlt2
        rw [List.drop_eq_getElem_cons hlt, List.drop_eq_getElem_cons hlt2] at hall
        have heq := toList_eq_iff a[i] b[i]
        obtain ⟨x, hx⟩ : ∃ x, x = a[i] := ⟨_, rfl⟩
        obtain ⟨y, hy⟩ : ∃ y, y = b[i] := ⟨_, rfl⟩
        rw [← hx] at e1 heq hall
        rw [← hy] at e2 heq hall
        by_cases hxy : x = y
        · rw [decide_eq_true hxy] at heq
          have hn : decide (a.drop (i + 1) = b.drop (i + 1)) = r := by
            rw [← hall, decide_eq_decide]
            exact ⟨fun h => by rw [hxy, h], fun h => (List.cons.inj h).2⟩
          have HN := Lib.hid hn
          have heq2 : x.toList = y.toList := by rw [hxy]
          clear hall hx hy hxy hc1 hc2 hn
          go_wp2_with fail
          go_quiet (fail)
          go_wp2_with fail
          go_roundg (gk - 1)
          case rel => exact ⟨i + 1, k + nq, by simp, by omega, by rw [HN.out, HR.out], by simp [World.drewN]⟩
          case measure => omega
        · rw [decide_eq_false hxy] at heq
          have hn : r = false := by
            rw [← hall]
            exact decide_eq_false fun h => hxy (List.cons.inj h).1
          subst hn
          have heq2 : ¬ (x.toList = y.toList) := by simpa using heq
          clear hall hx hy hxy hc1 hc2 HR
          go_wp2_with fail
          go_quiet (fail)
          go_wp2_with fail
          go_ret
          exact ⟨rfl, below_drewN (below_drewN (Below.refl _ w) _) _⟩
      · have hge : i = a.length := by omega
        have hn : r = true := by
          rw [← hall]
          refine decide_eq_true ?_
          rw [List.drop_of_length_le (by omega), List.drop_of_length_le (by rw [← Hl.out]; omega)]
        subst hn
        subst hge
        clear hall HR
        go_wp2_with fail
        go_ret
        exact ⟨rfl, below_drewN (Below.refl _ w) _⟩
  · have hlI : ((a.length : Int) == (b.length : Int)) = false := by rw [beq_eq_false_iff_ne]; omega
    have hn : r = false := by
      rw [hr]
      exact decide_eq_false fun h => hl (by rw [h])
    subst hn
    clear hr hp hq ha hb hl HR
    go_enter Tryz.func12, Tryz.ntmps12
    go_wp2_with fail
    go_ret
    exact ⟨rfl, Below.refl _ w⟩
end Go.Proofs.YtlmjidandjemjaaGreatDoor.State
