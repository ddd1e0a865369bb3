/- op, escaped, begins walked. -/
import Derived.Test.YtlhkochpokhncaaDoorLxA
import Derived.Test.YtlhkochpokhncaaDoorLxP
namespace Go.Proofs.YtlhkochpokhncaaDoor.Lexer
open Go.RowKit Go.Proofs.YtlhkochpokhncaaDoor Go.Proofs.YtlhkochpokhncaaDoor.Hp
set_option linter.unusedVariables false
attribute [local go_sem] Oper.semAt_some

theorem below_drew {W w : World} (h : Below W.heap.size W w) : Below W.heap.size W w.drew := Below.drew h
/-- A number is returned, and nothing that was there has changed. -/
def NPost (v : Int) (w : World) (e : Ending) (w' : World) : Prop := e = .returned (.int .i64 v) ∧ Below w.heap.size w w'
def SPost (v : ByteArray) (w : World) (e : Ending) (w' : World) : Prop := e = .returned (.string v) ∧ Below w.heap.size w w'
theorem escaped_calls (s : ByteArray) (i : Int) (w : World) (h0 : 0 ≤ i) (h1 : i ≤ 1000000) (hs : (s.size : Int) ≤ 9223372036854775807) :
    Calls Tryd.prog 60 #[.string s, .int .i64 i] w (NPost (if (s.size : Int) < i + 2 then -1 else i + 2) w) := by
  by_cases h : (s.size : Int) < i + 2
  · rw [if_pos h]
    go_enter Tryd.func60, Tryd.ntmps60
    go_wp2_with fail
    go_ret
    exact ⟨rfl, Below.refl _ _⟩
  · rw [if_neg h]
    go_enter Tryd.func60, Tryd.ntmps60
    go_wp2_with fail
    go_ret
    exact ⟨rfl, Below.refl _ _⟩
theorem ne_lit {x : ByteArray} {l : Bytes} (h : ¬ bs x = l) : (x.toList == l) = false := by
  rw [ByteArray.toList_eq]; exact beq_eq_false_iff_ne.2 h
/-- A round of op: which text stands at the beginning. -/
def opR (x : ByteArray) : Prop := bs x ∈ opsL
def OpRel (s v : ByteArray) (w : World) (g : Nat) (nv xv : Value) (wr : World) : Prop :=
  ∃ n : Nat, nv = .int .i64 (n : Int) ∧ n ≤ 3 ∧ n ≤ s.size ∧ v = s.extract 0 (opD n (bs s)) ∧ n < g ∧ Below w.heap.size w wr
set_option maxRecDepth 100000 in
set_option maxHeartbeats 8000000 in
theorem op_calls (s : ByteArray) (w : World) (hs : (s.size : Int) ≤ 9223372036854775807) :
    Calls Tryd.prog 30 #[.string s] w (SPost (s.extract 0 (opN (bs s))) w) := by
  obtain ⟨m, hm⟩ : ∃ m, m = min 3 s.size := ⟨_, rfl⟩
  have hop : opN (bs s) = opD m (bs s) := by rw [opD_eq, bs_length, hm]
  obtain ⟨v, hv⟩ : ∃ v, v = s.extract 0 (opN (bs s)) := ⟨_, rfl⟩
  rw [← hv]
  rw [hop] at hv
  have hms : m ≤ 3 ∧ m ≤ s.size := by omega
  have hm3 : (3 : Int) ≤ s.size → m = 3 := by omega
  have hmn : (s.size : Int) < 3 → m = s.size := by omega
  have Hv := Lib.hid hv
  clear hop hm hv
  go_enter Tryd.func30, Tryd.ntmps30
  go_wp2_with fail
  all_goals
    go_loopg [3, 4] (m + 1) (OpRel s v w)
    case atStart =>
      first
        | exact ⟨m, by rw [hm3 ‹_›]; rfl, hms.1, hms.2, Hv.out, Nat.lt_succ_self _, Below.refl _ _⟩
        | exact ⟨m, by rw [hmn ‹_›], hms.1, hms.2, Hv.out, Nat.lt_succ_self _, Below.refl _ _⟩
    case round =>
      obtain ⟨n, rfl, hn3, hns, hV, hg, hB⟩ := hrel
      clear hm3 hmn hms Hv
      have hnsI : (n : Int) ≤ s.size := by omega
      have hn0 : (0 : Int) ≤ n := by omega
      by_cases hz : n = 0
      · subst hz
        have hv0 : v = { data := #[] } := by rw [hV]; exact bs_ext (by rw [bs_extract]; rfl)
        subst hv0
        clear hV hg
        go_wp2_with fail
        go_ret
        exact ⟨rfl, hB⟩
      · have hzI : (0 : Int) < n := by omega
        obtain ⟨k, rfl⟩ : ∃ k, n = k + 1 := ⟨n - 1, by omega⟩
        have hx : bs (s.extract 0 (k + 1)) = (bs s).take (k + 1) := by rw [bs_extract, List.drop_zero, Nat.sub_zero]
        rw [opD] at hV
        rw [← hx] at hV
        obtain ⟨x, hX⟩ : ∃ x, s.extract 0 (k + 1) = x := ⟨_, rfl⟩
        rw [hX] at hV
        clear hx
        by_cases hin : bs x ∈ opsL
        · rw [if_pos hin, hX] at hV
          subst hV
          clear hg
          simp only [opsL, List.mem_cons, List.not_mem_nil, or_false] at hin
          rcases hin with hin | hin | hin | hin | hin | hin | hin | hin | hin | hin | hin | hin | hin | hin | hin | hin | hin
          all_goals
            have hin2 := bs_eq ‹_›
            clear hin
            subst hin2
            go_wp2_with fail
            go_ret
            exact ⟨rfl, hB⟩
        · rw [if_neg hin] at hV
          have HV := Lib.hid hV
          have Hg := Lib.hid hg
          clear hV hg
          have n0 := ne_lit (x := x) (l := [38, 38]) (fun e => hin (by rw [e]; decide))
          have n1 := ne_lit (x := x) (l := [124, 124]) (fun e => hin (by rw [e]; decide))
          have n2 := ne_lit (x := x) (l := [59, 59]) (fun e => hin (by rw [e]; decide))
          have n3 := ne_lit (x := x) (l := [60, 60, 45]) (fun e => hin (by rw [e]; decide))
          have n4 := ne_lit (x := x) (l := [60, 60]) (fun e => hin (by rw [e]; decide))
          have n5 := ne_lit (x := x) (l := [60, 38]) (fun e => hin (by rw [e]; decide))
          have n6 := ne_lit (x := x) (l := [60, 62]) (fun e => hin (by rw [e]; decide))
          have n7 := ne_lit (x := x) (l := [62, 62]) (fun e => hin (by rw [e]; decide))
          have n8 := ne_lit (x := x) (l := [62, 38]) (fun e => hin (by rw [e]; decide))
          have n9 := ne_lit (x := x) (l := [62, 124]) (fun e => hin (by rw [e]; decide))
          have n10 := ne_lit (x := x) (l := [38]) (fun e => hin (by rw [e]; decide))
          have n11 := ne_lit (x := x) (l := [124]) (fun e => hin (by rw [e]; decide))
          have n12 := ne_lit (x := x) (l := [59]) (fun e => hin (by rw [e]; decide))
          have n13 := ne_lit (x := x) (l := [60]) (fun e => hin (by rw [e]; decide))
          have n14 := ne_lit (x := x) (l := [62]) (fun e => hin (by rw [e]; decide))
          have n15 := ne_lit (x := x) (l := [40]) (fun e => hin (by rw [e]; decide))
          have n16 := ne_lit (x := x) (l := [41]) (fun e => hin (by rw [e]; decide))
          clear hin
          go_wp2_with fail
          go_roundg (gk - 1)
          case rel => exact ⟨k, by go_num, by omega, by omega, HV.out, by have := Hg.out; omega, hB⟩
          case measure => have := Hg.out; omega
end Go.Proofs.YtlhkochpokhncaaDoor.Lexer
