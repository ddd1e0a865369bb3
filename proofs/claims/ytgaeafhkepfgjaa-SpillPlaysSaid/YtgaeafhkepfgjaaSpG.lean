/- The laws' arguments: rows of calls that came in; and 'few'. -/
import Derived.Test.YtgaeafhkepfgjaaSpF
namespace Go.Proofs.Ytgaeafhkepfgjaa.Spill
open Go.RowKit Go.Proofs.Ytgaeafhkepfgjaa Go.Proofs.Ytgaeafhkepfgjaa.Hp
set_option linter.unusedVariables false

/-- A call of the law's row. -/
structure Opr where
  ask : Int
  at_ : Int
  n : Int
  data : List UInt8
instance : Inhabited Opr := ⟨⟨0, 0, 0, []⟩⟩
def I64 (x : Int) : Prop := -9223372036854775808 ≤ x ∧ x ≤ 9223372036854775807
def OkOp (o : Opr) : Prop := I64 o.ask ∧ I64 o.at_ ∧ I64 o.n ∧ o.data.length ≤ 9223372036854775807
/-- A slice of calls, read at a world. -/
def OpsAt (w : World) (ao : Option Addr) (l : List Opr) : Prop :=
  ∀ i (h : i < l.length), OkOp l[i] ∧ ∃ b o, ao = some ⟨b, o, none⟩ ∧ b < w.heap.size ∧ w.cell? ⟨b, o + i * 4, none⟩ = some (.int .i64 l[i].ask) ∧ w.cell? ⟨b, o + i * 4 + 1, none⟩ = some (.int .i64 l[i].at_) ∧
    w.cell? ⟨b, o + i * 4 + 2, none⟩ = some (.int .i64 l[i].n) ∧ w.cell? ⟨b, o + i * 4 + 3, none⟩ = some (.string ⟨l[i].data.toArray⟩)
theorem OpsAt.keep {w W : World} {ao : Option Addr} {l : List Opr} (h : OpsAt W ao l) (hk : ∀ k, k < W.heap.size → w.heap[k]? = W.heap[k]?) (hz : W.heap.size ≤ w.heap.size) : OpsAt w ao l := fun i hi => by
  obtain ⟨ho, b, o, e, hb, h0, h1, h2, h3⟩ := h i hi
  have hc : ∀ j, w.cell? ⟨b, j, none⟩ = W.cell? ⟨b, j, none⟩ := fun j => World.cell?_of_block (w := W) (hk b hb)
  exact ⟨ho, b, o, e, Nat.lt_of_lt_of_le hb hz, by rw [hc]; exact h0, by rw [hc]; exact h1, by rw [hc]; exact h2, by rw [hc]; exact h3⟩

/-- Calls are not too many, nor too great. -/
def Few (l : List Opr) : Prop := l.length ≤ 40 ∧ ∀ o ∈ l, o.data.length ≤ 300

set_option maxHeartbeats 1000000 in
theorem few_yes (w : World) (ao : Option Addr) (cap : Nat) (l : List Opr) (h : OpsAt w ao l) (hf : Few l) :
    Calls Try.prog 7 #[.slice ao l.length cap] w fun e w' => e = .returned (.bool true) ∧ w = w' := by
  obtain ⟨hn, ha⟩ := hf
  have hn1 : (l.length : Int) ≤ 40 := by omega
  go_enter Try.func7, Try.ntmps7
  go_wp2_with fail
  go_loopg [3] (l.length) (fun k iv wr => ∃ i : Nat, i + k = l.length ∧ iv = .int .i64 (i : Int) ∧ wr = w)
  case atStart => exact ⟨0, by omega, rfl, rfl⟩
  case round =>
    obtain ⟨i, hik, rfl, rfl⟩ := hrel
    by_cases hi : i < l.length
    · obtain ⟨_, b, o, rfl, hb, h0, h1, h2, h3⟩ := h i hi
      have hd := ha l[i] (List.getElem_mem hi)
      have hd1 : (l[i].data.length : Int) ≤ 300 := by omega
      have hlt : (i : Int) < l.length := by omega
      have hi0 : (0 : Int) ≤ i := by omega
      generalize l[i].data = d at *
      have Hik := Lib.hid hik
      clear hik h h0 h1 h2 ha
      go_wp2_with fail
      go_roundg (gk - 1)
      case measure => have := Hik.out; omega
      case rel => exact ⟨i + 1, by have := Hik.out; omega, rfl, rfl⟩
    · have hge : ¬ ((i : Int) < l.length) := by omega
      clear hik h ha
      go_wp2
      go_ret
      exact ⟨rfl, rfl⟩

set_option maxHeartbeats 1000000 in
theorem few_no (w : World) (ao : Option Addr) (cap : Nat) (l : List Opr) (h : OpsAt w ao l) (hf : ¬ Few l) :
    Calls Try.prog 7 #[.slice ao l.length cap] w fun e w' => e = .returned (.bool false) ∧ w = w' := by
  by_cases hn : l.length ≤ 40
  · have hn1 : (l.length : Int) ≤ 40 := by omega
    have hex : ∃ j, ∃ hj : j < l.length, 300 < l[j].data.length := by
      rcases Classical.em (∃ j, ∃ hj : j < l.length, 300 < l[j].data.length) with h1 | h1
      · exact h1
      · exfalso; refine hf ⟨hn, fun o ho => ?_⟩
        obtain ⟨j, hj, rfl⟩ := List.mem_iff_getElem.1 ho
        rcases Nat.lt_or_ge 300 l[j].data.length with h2 | h2
        · exact absurd ⟨j, hj, h2⟩ h1
        · exact h2
    obtain ⟨j, hj, hjd⟩ := hex
    clear hf
    go_enter Try.func7, Try.ntmps7
    go_wp2_with fail
    go_loopg [3] (j + 1) (fun k iv wr => ∃ i : Nat, i + k = j + 1 ∧ 0 < k ∧ iv = .int .i64 (i : Int) ∧ wr = w)
    case atStart => exact ⟨0, by omega, by omega, rfl, rfl⟩
    case round =>
      obtain ⟨i, hik, hk0, rfl, rfl⟩ := hrel
      have hi : i < l.length := by omega
      have hlt : (i : Int) < l.length := by omega
      have hi0 : (0 : Int) ≤ i := by omega
      by_cases hd : l[i].data.length ≤ 300
      · have hij : i ≠ j := by rintro rfl; omega
        obtain ⟨_, b, o, rfl, hb, h0, h1, h2, h3⟩ := h i hi
        have hd1 : (l[i].data.length : Int) ≤ 300 := by omega
        generalize l[i].data = d at *
        have Hik := Lib.hid hik
        clear hik h h0 h1 h2
        go_wp2_with fail
        go_roundg (gk - 1)
        case measure => omega
        case rel => exact ⟨i + 1, by have := Hik.out; omega, by have := Hik.out; omega, rfl, rfl⟩
      · obtain ⟨ok, b, o, rfl, hb, h0, h1, h2, h3⟩ := h i hi
        have hd2 := ok.2.2.2
        have hd1 : (300 : Int) < (l[i].data.length : Int) := by omega
        have hd3 : (l[i].data.length : Int) ≤ 9223372036854775807 := by omega
        clear ok
        generalize l[i].data = d at *
        clear hik h h0 h1 h2
        go_wp2
        go_ret
        exact ⟨rfl, rfl⟩
  · have hn1 : (40 : Int) < l.length := by omega
    clear h hf
    go_enter Try.func7, Try.ntmps7
    go_wp2
    go_ret
    exact ⟨rfl, rfl⟩
end Go.Proofs.Ytgaeafhkepfgjaa.Spill
