/- Grow, Concat, Join walked. -/
import Derived.Test.YtlpfcnpdecoblaaDoorMkE
namespace Go.Proofs.YtlpfcnpdecoblaaDoor.Marks
open Go.RowKit Go.Proofs.YtlpfcnpdecoblaaDoor Go.Proofs.YtlpfcnpdecoblaaDoor.Hp
set_option linter.unusedVariables false
attribute [local go_sem] Oper.semAt_some

/-- append of so many zeroes to nothing. -/
theorem run_append_make (w : World) (n : Nat) (h0 : 0 < n) (hn : n ≤ 1000000000) (ty : TypeId) (i0 : TypeInfo) (hi : Tryd.prog.info? 37 = some i0) (hz0 : i0.zero = some (.agg #[.int .u8 0, .bool false])) (hz1 : i0.size = 2) (hz2 : i0.bytes = 2) :
    (Builtin.append_ #[22, 3] ty #[.slice none 0 0, .int .i64 (n : Int)]).run Tryd.prog w =
      .ok (.slice (some ⟨w.heap.size, 0, none⟩) n (grownCap w n 0 37)) (w.drew.alloc (.cells (Builtin.zeroCells #[.int .u8 0, .bool false] n ++ Builtin.zeroCells #[.int .u8 0, .bool false] (grownCap w n 0 37 - n)) 37)) := by
  have hne : ¬ (n = 0) := by omega
  have hw : IntKind.i64.wrap (n : Int) = (n : Int) := by
    simp [IntKind.wrap, IntKind.signed, IntKind.bits]
    omega
  have hneg : ¬ ((n : Int) < 0) := by omega
  have hbig : ¬ ((281474976710656 : Int) < (n : Int) * 2) := by omega
  have hmax : ¬ ((9223372036854775807 : Int) < (n : Int)) := by omega
  have hfit : Builtin.nextslicecap n 0 * 2 ≤ 281474976710656 := growslice_fits (by omega) (by omega)
  have hfit2 : ¬ (281474976710656 < Builtin.nextslicecap n 0 * 2) := by omega
  have hfc := run_firstCells_none (P := Tryd.prog) w.drew 2 0 0 0
  have hne2 : ¬ (n * 2 = 0) := by omega
  simp [Builtin.append_, run_underlying Tryd.underlying22, run_underlying Tryd.underlying3, sizeOf, typeInfo, zeroValue, hi, hz0, hz1, hz2, asInt, asIntOf, hw, hneg, hbig, hmax, hfit2, hne, hne2, hfc, Question.forced, newRow, grownCap]
  rfl
theorem appMake {w w2 : World} {ops : Array Oper} {rest : List Oper} {o : Oper} {a : Act} {Q : Exit → Act → World → Prop} (hgd : o.guard = none) (s x : Operand)
    (ho : o.op = .call { callee := .builtin .append, args := #[s, x], argTypes := #[22, 3] }) (n : Int) (v : Value) (hs : a.eval s = .slice none 0 0) (hx : a.eval x = .int .i64 n)
    (hr : (Builtin.append_ #[22, 3] o.type #[.slice none 0 0, .int .i64 n]).run Tryd.prog w = .ok v w2) (hk : wpList Tryd.prog ops Q rest (a.put o.dst v) w2) : wpList Tryd.prog ops Q (o :: rest) a w :=
  wpList_plain hgd fun _ hK => by
    unfold Oper.wp execOp
    simp only [ho, resolve, invoke, builtin, Sem.run_bind, Sem.run_pure, Result.andThen_ok, List.map_toArray, List.map_cons, List.map_nil, hs, hx, hr]
    exact hK _ _ hk
def GrowPost (S : Hp) (e : Ending) (w' : World) : Prop := ∃ p cap, e = .returned (.slice p 0 cap) ∧ Sat w' (arr 37 2 p 0 cap [] * S)
set_option maxRecDepth 100000 in
set_option maxHeartbeats 1000000 in
theorem grow_calls (n : Nat) (w : World) (S : Hp) (h : Sat w S) (hn : n ≤ 1000000000) :
    Calls Tryd.prog 56 #[.slice none 0 0, .int .i64 (n : Int)] w fun e w' => GrowPost S e w' ∧ Ran w w' := by
  have hn1 : (n : Int) ≤ 1000000000 := by omega
  have hn0 : (0 : Int) ≤ (n : Int) := by omega
  have hn2 : ¬ ((n : Int) < 0) := by omega
  by_cases h0 : n = 0
  · subst h0
    have H := Lib.hid h
    clear h
    go_enter Tryd.func56, Tryd.ntmps56
    go_wp2_with fail
    go_ret
    exact ⟨⟨none, 0, rfl, H.out.nil_arr _ _⟩, Below.refl 0 w⟩
  · have hp : (0 : Int) < (n : Int) := by omega
    obtain ⟨i0, hi, hz0, hz1, hz2⟩ := info_parts infoCh
    have hrun := fun ty => run_append_make w n (by omega) hn ty i0 hi hz0 hz1 hz2
    obtain ⟨w2, hw2⟩ : ∃ w2, w2 = w.drew.alloc (.cells (Builtin.zeroCells #[.int .u8 0, .bool false] n ++ Builtin.zeroCells #[.int .u8 0, .bool false] (grownCap w n 0 37 - n)) 37) := ⟨_, rfl⟩
    have hge := grownCap_ge w n 0 37
    have hle := grownCap_le_maxLen w n 0 37 (by unfold maxLen; omega)
    obtain ⟨c, hc⟩ : ∃ c, c = grownCap w n 0 37 := ⟨_, rfl⟩
    have HS : Sat w2 (arr 37 2 (some ⟨w.heap.size, 0, none⟩) 0 c [] * S) := by
      rw [hw2]
      refine Sat.arr_mk (Nat.zero_le _) (by rw [hc]; exact hle) ?_ rfl (fun j hj => by simp at hj) (Sat.alloc (w := w.drew) h.drew _)
      rw [hc]
      simp only [Array.size_append, size_zeroCells]
      show 0 + _ ≤ n * 2 + (_ - n) * 2
      omega
    have RS : Ran w w2 := by rw [hw2]; exact Ran.new (Below.drew (Below.refl _ _)) _
    rw [← hw2, ← hc] at hrun
    have hc0 : (0 : Int) ≤ (c : Int) := by omega
    have HS := Lib.hid HS
    clear hw2 hc hge hle h hi hz0 hz1 hz2 h0
    go_enter Tryd.func56, Tryd.ntmps56
    go_wp2_with (at_builtin; go_loud (refine appMake rfl _ _ rfl _ _ rfl rfl (hrun _) ?_))
    go_ret
    exact ⟨⟨_, c, rfl, HS.out⟩, RS⟩
/-- Rows that lie in memory. -/
def RowsAt (w : World) (lo : Option Addr) (rs : List Rw) : Prop := ∀ i (h : i < rs.length), ∃ b o, lo = some ⟨b, o, none⟩ ∧ w.cell? ⟨b, o + i, none⟩ = some (rwV rs[i]) ∧ CharsAt w rs[i].p rs[i].cap rs[i].L
def joinL (rs : List Rw) : List Ch := rs.flatMap Rw.L
def sumL (rs : List Rw) : Nat := (rs.map fun r => r.L.length).sum
theorem joinL_length (rs : List Rw) : (joinL rs).length = sumL rs := by unfold joinL sumL; rw [List.length_flatMap]
theorem sum_take (rs : List Rw) (i : Nat) (h : i < rs.length) : sumL (rs.take (i + 1)) = sumL (rs.take i) + rs[i].L.length := by
  unfold sumL
  rw [List.take_succ_eq_append_getElem h, List.map_append, List.sum_append]; simp
theorem join_take (rs : List Rw) (i : Nat) (h : i < rs.length) : joinL (rs.take (i + 1)) = joinL (rs.take i) ++ rs[i].L := by
  unfold joinL
  rw [List.take_succ_eq_append_getElem h, List.flatMap_append]; simp
theorem sum_le (rs : List Rw) (i : Nat) : sumL (rs.take i) ≤ sumL rs := by
  conv => rhs; rw [← List.take_append_drop i rs]
  unfold sumL
  rw [List.map_append, List.sum_append]; omega
def CcRel (rs : List Rw) (w : World) (g : Nat) (sv iv : Value) (wr : World) : Prop := ∃ i : Nat, i + g = rs.length ∧ iv = .int .i64 (i : Int) ∧ sv = .int .i64 (sumL (rs.take i) : Int) ∧ w = wr
def CdRel (rs : List Rw) (S : Hp) (w : World) (g : Nat) (ov iv : Value) (wr : World) : Prop := ∃ (i : Nat) (p : Option Addr) (cap : Nat), i + g = rs.length ∧ iv = .int .i64 (i : Int) ∧ ov = .slice p (joinL (rs.take i)).length cap ∧ Sat wr (chA p cap (joinL (rs.take i)) * S) ∧ Ran w wr
set_option maxRecDepth 100000 in
set_option maxHeartbeats 2000000 in
theorem concat_calls (rs : List Rw) (lo : Option Addr) (lc : Nat) (w : World) (S : Hp) (hrd : ∀ W S', Sat W (S * S') → RowsAt W lo rs) (h : Sat w S) (hn : rs.length ≤ 1000000) (hs : sumL rs ≤ 1000000) :
    Calls Tryd.prog 43 #[.slice lo rs.length lc] w fun e w' => OwnPost (joinL rs) S e w' ∧ Ran w w' := by
  have hnn : (rs.length : Int) ≤ 1000000 := by omega
  have Hrd := Lib.hid hrd
  have H := Lib.hid h
  have hat := Lib.hid (hrd w emp (h.perm (by rw [sep_emp])))
  clear h hrd
  go_enter Tryd.func43, Tryd.ntmps43
  go_wp2_with fail
  go_loopg [3, 5, 11] (rs.length) (fun (g : Nat) (sv _ iv : Value) (wr : World) => CcRel rs w g sv iv wr)
  case atStart => exact ⟨0, by omega, rfl, rfl, rfl⟩
  case round =>
    obtain ⟨i, hig, rfl, rfl, rfl⟩ := hrel
    have hi0 : (0 : Int) ≤ i := by omega
    by_cases hi : i < rs.length
    · have hil : (i : Int) < (rs.length : Int) := by omega
      obtain ⟨b, o, rfl, hc, _⟩ := hat.out i hi
      have hst := sum_take rs i hi
      have hsl := sum_le rs (i + 1)
      obtain ⟨r, hr⟩ : ∃ r, r = rs[i] := ⟨_, rfl⟩
      rw [← hr] at hc hst
      unfold rwV at hc
      obtain ⟨a0, ha0⟩ : ∃ a, a = sumL (rs.take i) := ⟨_, rfl⟩
      obtain ⟨n0, hn0⟩ : ∃ n, n = r.L.length := ⟨_, rfl⟩
      rw [← ha0, ← hn0] at hst
      rw [← hn0] at hc
      rw [← ha0]
      have hb1 : (0 : Int) ≤ (a0 : Int) + (n0 : Int) := by omega
      have hb2 : (a0 : Int) + (n0 : Int) ≤ 1000000 := by omega
      have hb3 : ¬ ((a0 : Int) + (n0 : Int) < 0) := by omega
      have Hst := Lib.hid hst
      have Hig := Lib.hid hig
      clear hst hsl hr hig ha0 hn0
      go_wp2_with fail
      go_roundg (gk - 1)
      case measure => have := Hig.out; omega
      case rel => exact ⟨i + 1, by have := Hig.out; omega, rfl, by rw [Hst.out]; rfl, rfl⟩
    · have hge : ¬ ((i : Int) < (rs.length : Int)) := by omega
      have hir : i = rs.length := by omega
      have hta : rs.take i = rs := by rw [hir]; exact List.take_length
      rw [hta]
      have hs1 : (sumL rs : Int) ≤ 1000000 := by omega
      have hgr := Lib.hid (grow_calls (sumL rs) w S H.out (by omega))
      clear hir hta hig hi
      go_wp2_with fail
      refine hgr.out.mono ?_
      rintro e w2 ⟨⟨p, cap, rfl, H2⟩, R2⟩
      have H2 := Lib.hid H2
      clear hgr
      go_wp2_with fail
      go_loopg [6, 8, 27] (rs.length) (fun (g : Nat) (ov _ iv : Value) (w9 : World) => CdRel rs S w g ov iv w9)
      case atStart => exact ⟨0, p, cap, by omega, rfl, rfl, H2.out, R2⟩
      case round =>
        clear H2 R2
        obtain ⟨j, p, cap, hjg, rfl, rfl, HS, HR⟩ := hrel
        have hj0 : (0 : Int) ≤ j := by omega
        by_cases hj : j < rs.length
        · have hjl : (j : Int) < (rs.length : Int) := by omega
          obtain ⟨b, o, rfl, hc, hch⟩ := Hrd.out wr _ (HS.perm (show _ = S * chA p cap (joinL (rs.take j)) by ac_rfl)) j hj
          have hjt := join_take rs j hj
          have hst := sum_take rs j hj
          have hsl := sum_le rs (j + 1)
          have hjlen := joinL_length (rs.take j)
          obtain ⟨r, hr⟩ : ∃ r, r = rs[j] := ⟨_, rfl⟩
          rw [← hr] at hc hch hjt hst
          unfold rwV at hc
          have hsrc := Lib.hid (srcCh hch)
          have hlim : (joinL (rs.take j)).length + r.L.length ≤ 1000000000 := by omega
          obtain ⟨nl, hnl⟩ : ∃ n, n = (joinL (rs.take j)).length := ⟨_, rfl⟩
          have HSB : Sat wr (arr 37 2 p nl cap (chCells (joinL (rs.take j))) * S) := by rw [hnl]; exact HS
          rw [← hnl] at hlim
          rw [← hnl]
          have Hnl := Lib.hid hnl
          have Hjt := Lib.hid hjt
          have Hjg := Lib.hid hjg
          clear hjt hst hsl hjlen hr hch hnl hjg HS
          go_wp2_with (at_builtin; go_loud (refine appCh rfl _ _ rfl p nl cap _ rfl _ rfl r.L.length _ hsrc.out HSB hlim ?_; intro p' cap' w6 T6 R6; clear HSB))
          have Hrel := Lib.hid (show CdRel rs S w (gk - 1) (.slice p' (nl + r.L.length) cap') (.int .i64 ((j : Int) + 1)) w6 from by
            have e1 : (joinL (rs.take (j + 1))).length = nl + r.L.length := by rw [Hjt.out, List.length_append, Hnl.out]
            refine ⟨j + 1, p', cap', by have := Hjg.out; omega, rfl, by rw [e1], ?_, Below.trans HR R6⟩
            unfold chA
            rw [e1, Hjt.out]
            have e2 : chCells (joinL (rs.take j) ++ r.L) = chCells (joinL (rs.take j)) ++ chCells r.L := by unfold chCells; exact List.flatMap_append
            rw [e2]
            exact T6)
          clear T6 R6
          go_roundg (gk - 1)
          case measure => have := Hjg.out; omega
          case rel => exact Hrel.out
        · have hge : ¬ ((j : Int) < (rs.length : Int)) := by omega
          have hta : rs.take j = rs := List.take_of_length_le (by omega)
          rw [hta] at HS
          rw [hta]
          have HS := Lib.hid HS
          clear hta hjg hj
          go_wp2_with fail
          go_ret
          exact ⟨⟨p, cap, rfl, HS.out⟩, HR⟩
set_option maxHeartbeats 1000000 in
theorem join_calls (rs : List Rw) (lo : Option Addr) (lc : Nat) (w : World) (S : Hp) (hrd : ∀ W S', Sat W (S * S') → RowsAt W lo rs) (h : Sat w S) (hn : rs.length ≤ 1000000) (hs : sumL rs ≤ 1000000) :
    Calls Tryd.prog 20 #[.slice lo rs.length lc] w fun e w' => OwnPost (joinL rs) S e w' ∧ Ran w w' := by
  have hc := Lib.hid (concat_calls rs lo lc w S hrd h hn hs)
  clear h hrd
  go_enter Tryd.func20, Tryd.ntmps20
  go_wp2_with fail
  refine hc.out.mono ?_
  rintro e w2 ⟨⟨p, cap, rfl, H2⟩, R2⟩
  have H2 := Lib.hid H2
  go_wp2_with fail
  go_ret
  exact ⟨⟨p, cap, rfl, H2.out⟩, R2⟩
end Go.Proofs.YtlpfcnpdecoblaaDoor.Marks
