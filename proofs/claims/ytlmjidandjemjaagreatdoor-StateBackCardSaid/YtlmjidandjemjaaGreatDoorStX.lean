/- Few, ask, first, node walked. -/
import Derived.Test.YtlmjidandjemjaaGreatDoorStW
namespace Go.Proofs.YtlmjidandjemjaaGreatDoor.State
open Go.RowKit Go.Proofs.YtlmjidandjemjaaGreatDoor Go.Proofs.YtlmjidandjemjaaGreatDoor.Hp Go.Proofs.YtlmjidandjemjaaGreatDoor.Undo
set_option linter.unusedVariables false
attribute [local go_sem] Oper.semAt_some

def FewO (o : Opr) : Prop := o.k.size ≤ 200 ∧ o.t.size ≤ 5000 ∧ o.L.length ≤ 1100 ∧ ∀ x ∈ o.L, x.size ≤ 5000
def FewP (l : List Opr) : Prop := l.length ≤ 50 ∧ ∀ o ∈ l, FewO o
def FewSays (l : List Opr) (w : World) (e : Ending) (w' : World) : Prop := (∃ r, e = .returned (.bool r) ∧ (r = true → FewP l)) ∧ w = w'
def FwRel (l : List Opr) (w : World) (g : Nat) (v3 v4 v5 : Value) (wr : World) : Prop :=
  ∃ i : Nat, v3 = .int .i64 (i : Int) ∧ i + g = l.length ∧ (∀ j (h : j < l.length), j < i → FewO l[j]) ∧ w = wr
def FwRel2 (L : List ByteArray) (w : World) (g : Nat) (v5 : Value) (wr : World) : Prop :=
  ∃ j : Nat, v5 = .int .i64 (j : Int) ∧ j + g = L.length ∧ (∀ q (h : q < L.length), q < j → L[q].size ≤ 5000) ∧ w = wr
set_option maxRecDepth 100000 in
set_option maxHeartbeats 16000000 in
theorem few_calls (l : List Opr) (ao : Option Addr) (cap : Nat) (w : World) (hl : OpsAt w ao l) (hlen : l.length ≤ 9223372036854775807) :
    Calls Tryz.prog 13 #[.slice ao l.length cap] w (FewSays l w) := by
  have HL := Lib.hid hl
  have hlI : (l.length : Int) ≤ 9223372036854775807 := by omega
  clear hl
  by_cases h50 : 50 < l.length
  · have h50I : (50 : Int) < l.length := by omega
    go_enter Tryz.func13, Tryz.ntmps13
    go_wp2_with fail
    go_ret
    exact ⟨⟨false, rfl, fun h => by cases h⟩, rfl⟩
  have h50I : (l.length : Int) ≤ 50 := by omega
  have H50 := Lib.hid (show l.length ≤ 50 by omega)
  go_enter Tryz.func13, Tryz.ntmps13
  go_wp2_with fail
  go_loopg [3, 4, 5] (l.length) (FwRel l w)
  case atStart => exact ⟨0, rfl, by omega, fun j _ h => absurd h (Nat.not_lt_zero _), rfl⟩
  case round =>
    obtain ⟨i, rfl, hg, hok, rfl⟩ := hrel
    obtain ⟨go1, hgo1⟩ : ∃ g, g = gk := ⟨_, rfl⟩
    by_cases hlt : i < l.length
    · have hltI : (i : Int) < l.length := by omega
      have hi0 : (0 : Int) ≤ i := by omega
      obtain ⟨okx, b, o, rfl, hb, e0, e1, e2, e3, e4⟩ := HL.out i hlt
      obtain ⟨x, hx⟩ : ∃ x, x = l[i] := ⟨_, rfl⟩
      rw [← hx] at okx e0 e1 e2 e3 e4
      have HT := Lib.hid okx.2.2.2.2
      have Hx := Lib.hid hx
      have Hok := Lib.hid hok
      have hk : (x.k.size : Int) ≤ 9223372036854775807 := by have := okx.2.1; unfold maxLen at this; omega
      have ht : (x.t.size : Int) ≤ 9223372036854775807 := by have := okx.2.2.1; unfold maxLen at this; omega
      clear okx hx hok hb e0
      go_wp2_with fail
      all_goals
        first
          | (go_ret; exact ⟨⟨false, rfl, fun h => by cases h⟩, rfl⟩)
          | (have hL11 : x.L.length ≤ 1100 := by omega
             have hk2 : x.k.size ≤ 200 := by omega
             have ht5 : x.t.size ≤ 5000 := by omega
             have HF := Lib.hid (And.intro hL11 (And.intro hk2 ht5))
             have hL11I : (x.L.length : Int) ≤ 1100 := by omega
             go_loopg [5] (x.L.length) (FwRel2 x.L w)
             case atStart => exact ⟨0, rfl, by omega, fun j _ h => absurd h (Nat.not_lt_zero _), rfl⟩
             case round =>
               obtain ⟨j, rfl, hg2, hok2, rfl⟩ := hrel
               by_cases hlt2 : j < x.L.length
               · have hlt2I : (j : Int) < x.L.length := by omega
                 have hj0 : (0 : Int) ≤ j := by omega
                 obtain ⟨hys, b2, o2, hp, hb2, c2⟩ := HT.out j hlt2
                 rw [hp] at e4
                 obtain ⟨y, hy⟩ : ∃ y, y = x.L[j] := ⟨_, rfl⟩
                 rw [← hy] at hys c2
                 have Hy := Lib.hid hy
                 have Hok2 := Lib.hid hok2
                 have hysI : (y.size : Int) ≤ 9223372036854775807 := by unfold maxLen at hys; omega
                 clear hy hok2 hys hb2 hp
                 go_wp2_with fail
                 all_goals
                   first
                     | (go_ret; exact ⟨⟨false, rfl, fun h => by cases h⟩, rfl⟩)
                     | (have hy5 : y.size ≤ 5000 := by omega
                        go_roundg (gk - 1)
                        case rel =>
                          refine ⟨j + 1, by simp, by omega, fun q hq hqj => ?_, rfl⟩
                          by_cases hqe : q < j
                          · exact Hok2.out q hq hqe
                          · have : q = j := by omega
                            subst this
                            rw [← Hy.out]; exact hy5
                        case measure => omega)
               · have hge : j = x.L.length := by omega
                 subst hge
                 have Hok2 := Lib.hid hok2
                 clear hok2
                 go_wp2_with fail
                 go_roundg (go1 - 1)
                 case rel =>
                   refine ⟨i + 1, by simp, by omega, fun q hq hqi => ?_, rfl⟩
                   by_cases hqe : q < i
                   · exact Hok.out q hq hqe
                   · have : q = i := by omega
                     subst this
                     rw [← Hx.out]
                     exact ⟨HF.out.2.1, HF.out.2.2, HF.out.1, fun z hz => by
                       obtain ⟨q2, hq2, rfl⟩ := List.getElem_of_mem hz
                       exact Hok2.out q2 hq2 hq2⟩
                 case measure => omega)
    · have hge : i = l.length := by omega
      subst hge
      have Hok := Lib.hid hok
      clear hok
      go_wp2_with fail
      go_ret
      refine ⟨⟨true, rfl, fun _ => ⟨H50.out, fun o ho => ?_⟩⟩, rfl⟩
      obtain ⟨q, hq, rfl⟩ := List.getElem_of_mem ho
      exact Hok.out q hq hq
end Go.Proofs.YtlmjidandjemjaaGreatDoor.State
