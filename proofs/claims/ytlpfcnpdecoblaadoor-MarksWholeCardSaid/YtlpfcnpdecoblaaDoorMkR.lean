/- The document's Part walked. -/
import Derived.Test.YtlpfcnpdecoblaaDoorMkQ
namespace Go.Proofs.YtlpfcnpdecoblaaDoor.Marks
open Go.RowKit Go.Proofs.YtlpfcnpdecoblaaDoor Go.Proofs.YtlpfcnpdecoblaaDoor.Hp
set_option linter.unusedVariables false
attribute [local go_sem] Oper.semAt_some

abbrev rrA (x : Rw) : Hp := rcA x.p x.cap x.L
theorem infoRRw : (Tryd.prog.info? 27).map (fun i => (i.zero, i.size, i.bytes)) = some (some (.slice none 0 0), 1, 24) := by kernel_rfl
theorem appRRw {w : World} {H : Hp} {ops : Array Oper} {rest : List Oper} {o : Oper} {a : Act} {Q : Exit → Act → World → Prop} (hgd : o.guard = none) (s x : Operand)
    (ho : o.op = .call { callee := .builtin .append, args := #[s, x], argTypes := #[45, 45] })
    (p : Option Addr) (n cap : Nat) (xs : List Value) (hp : a.eval s = .slice p n cap) (b : Nat) (hvx : a.eval x = .slice (some ⟨b, 0, none⟩) 1 1) (h : Sat w (arr 27 1 p n cap xs * H)) (v : Value) (hb : w.heap[b]? = some (.cells #[v] 27 (0, 0))) (h0 : v.oneCell' = true) (hn : n ≤ 1000000000)
    (hk : ∀ p' cap' w', Sat w' (arr 27 1 p' (n + 1) cap' (xs ++ [v]) * H) → Ran w w' → wpList Tryd.prog ops Q rest (a.put o.dst (.slice p' (n + 1) cap')) w') : wpList Tryd.prog ops Q (o :: rest) a w := by
  obtain ⟨i0, hi, hz0, hz1, hz2⟩ := info_parts infoRRw
  refine wpList_append_arr hgd s x _ _ ho 27 i0 _ 1 24 Tryd.underlying45 hi hz0 hz1 hz2 rfl p n cap xs hp h _ hvx 1 [v] (Src.ofSlice w Tryd.underlying45 ⟨b, 0, none⟩ 1 1 [v] (by rw [hz1]; rfl) ?_ (by simp [h0])) (by omega) (by unfold maxLen; omega) (fun p' cap' w' h1 h2 _ => hk p' cap' w' h1 h2)
  intro j u hj
  rw [Addr.add_lit, Nat.zero_add, cell_at hb, ← hj]
  simp
/-- The document's rows of a call's own. -/
def rowsR (p : Option Addr) (cap : Nat) (rs : List Rw) : Hp := arr 27 1 p rs.length cap (rs.map rwV) * all rrA rs
theorem rc_at {w : World} {R : Hp} {p : Option Addr} {cap : Nat} {t : List Ch} (h : Sat w (rcA p cap t * R)) : CharsAt w p cap t := by
  obtain ⟨h1, h2, h3⟩ := h.arr_len
  refine ⟨h2, by unfold maxLen at h3; omega, fun j hj => ?_⟩
  obtain ⟨b, o, rfl⟩ := h.arr_addr (by omega)
  obtain ⟨g0, g1⟩ := chCells_get t j hj
  have hl := chCells_length t
  refine ⟨b, o, rfl, ?_, ?_, ?_⟩
  · obtain ⟨cur, _, _, _, _, _, _, h'⟩ := h.arr_some; exact h'.lt
  · rw [h.arr_cell (j * 2) (by omega)]; rw [List.getElem?_eq_getElem (by omega)] at g0; exact g0
  · rw [Nat.add_assoc, h.arr_cell (j * 2 + 1) (by omega)]; rw [List.getElem?_eq_getElem (by omega)] at g1; exact g1
theorem rowsR_of {w : World} {p : Option Addr} {cap : Nat} {rs : List Rw} {S : Hp} (h : Sat w (rowsR p cap rs * S)) : RowsAt w p rs := fun i hi => by
  unfold rowsR at h
  rw [sep_assoc] at h
  have hl := h.arr_len
  obtain ⟨b, o, rfl⟩ := h.arr_addr (by omega)
  refine ⟨b, o, rfl, ?_, ?_⟩
  · rw [h.arr_cell i (by rw [List.length_map]; exact hi), List.getElem_map]
  · have h2 := h.right
    rw [all_split rrA rs i hi, sep_assoc] at h2
    exact rc_at h2
/-- A piece already read stands ahead of the first part. -/
def preL (now : List Ch) : List (List Ch) → List (List Ch)
  | [] => [now]
  | l :: ls => (now ++ l) :: ls
theorem preL_nil {P : List (List Ch)} (h : P ≠ []) : preL [] P = P := by
  cases P with
  | nil => exact absurd rfl h
  | cons l ls => rfl
theorem preL_cut {b : UInt8} {x : Ch} (now u : List Ch) (h : (⟨b, false⟩ == x) = true) : preL now (partL b (x :: u)) = [now] ++ preL [] (partL b u) := by
  rw [partL_cons, if_pos h, preL_nil (partL_ne b u)]
  show (now ++ []) :: _ = _
  rw [List.append_nil]; rfl
theorem preL_next {b : UInt8} {x : Ch} (now u : List Ch) (h : (⟨b, false⟩ == x) = false) : preL now (partL b (x :: u)) = preL (now ++ [x]) (partL b u) := by
  rw [partL_cons, h, if_neg (by decide)]
  have hne := partL_ne b u
  match partL b u, hne with
  | [], hne => exact absurd rfl hne
  | l :: ls, _ => show (now ++ x :: l) :: ls = ((now ++ [x]) ++ l) :: ls; rw [List.append_assoc]; rfl
theorem preL_end (b : UInt8) (now : List Ch) : preL now (partL b []) = [now] := by
  show [now ++ []] = [now]
  rw [List.append_nil]
def RpRel (b : UInt8) (t : List Ch) (w : World) (g : Nat) (ov nv iv : Value) (wr : World) : Prop :=
  ∃ (i : Nat) (p : Option Addr) (pc : Nat) (rs : List Rw) (q : Option Addr) (qc : Nat) (now : List Ch), i + g = t.length ∧ iv = .int .i64 (i : Int) ∧ ov = .slice p rs.length pc ∧ nv = .slice q now.length qc ∧ partL b t = rs.map Rw.L ++ preL now (partL b (t.drop i)) ∧ rs.length ≤ i ∧ now.length ≤ i ∧ Sat wr (rowsR p pc rs * (rcA q qc now * keep w)) ∧ Ran w wr
theorem rows_snoc {w' : World} {S : Hp} {p' : Option Addr} {cap2 n : Nat} {rs : List Rw} {q : Option Addr} {qc : Nat} {u : List Ch} (hn : n = rs.length) (T6 : Sat w' (arr 27 1 p' (n + 1) cap2 (rs.map rwV ++ [.slice q u.length qc]) * (all rrA rs * (rcA q qc u * S)))) : Sat w' (rowsR p' cap2 (rs ++ [⟨q, qc, u⟩]) * S) := by
  subst hn
  unfold rowsR
  rw [List.length_append, List.map_append, all_append]
  exact T6.perm (by show arr 27 1 p' (rs.length + 1) cap2 (rs.map rwV ++ [.slice q u.length qc]) * _ = (arr 27 1 p' (rs.length + 1) cap2 (rs.map rwV ++ [.slice q u.length qc]) * (_ * (rcA q qc u * emp))) * _; rw [sep_emp]; ac_rfl)
set_option maxRecDepth 100000 in
set_option maxHeartbeats 4000000 in
theorem rpart_calls (t : List Ch) (ao : Option Addr) (cap : Nat) (b : UInt8) (w : World) (h : CharsAt w ao cap t) (hm : t.length ≤ 100000) :
    Calls Tryd.prog 23 #[.slice ao t.length cap, .int .u8 b.toNat] w (PartsPost (partL b t) w) := by
  have hmm : (t.length : Int) ≤ 100000 := by omega
  have Hm := Lib.hid hm
  have H := Lib.hid h
  have H0 : Sat w (rowsR none 0 [] * (rcA none 0 [] * keep w)) := by
    have h1 := ((Sat.start w).nil_arr 66 2).nil_arr 27 1
    exact h1.perm (by unfold rowsR; show _ = (_ * emp) * _; rw [sep_emp]; rfl)
  have H0 := Lib.hid H0
  clear h hm
  go_enter Tryd.func23, Tryd.ntmps23
  go_wp2_with fail
  go_loopg [5, 6, 7] (t.length) (fun (g : Nat) (ov nv iv : Value) (wr : World) => RpRel b t w g ov nv iv wr)
  case atStart => exact ⟨0, none, 0, [], none, 0, [], by omega, rfl, rfl, rfl, by rw [List.drop_zero, preL_nil (partL_ne b t)]; rfl, Nat.zero_le _, Nat.zero_le _, H0.out, Below.refl _ _⟩
  case round =>
    clear H0
    obtain ⟨i, p, pc, rs, q, qc, now, hg, rfl, rfl, rfl, hpl, hrl, hnl, HS, HR⟩ := hrel
    have hmt := Hm.out
    have hi0 : (0 : Int) ≤ i := by omega
    obtain ⟨rl, hrl2⟩ : ∃ n, n = rs.length := ⟨_, rfl⟩
    obtain ⟨nl, hnl2⟩ : ∃ n, n = now.length := ⟨_, rfl⟩
    have hl1 : rl ≤ 1000000000 := by omega
    have hl2 : nl + 1 ≤ 1000000000 := by omega
    have hKr : Kept w wr := ⟨HR.size, HS.right.right.kept⟩
    by_cases hi : i < t.length
    · have hil : (i : Int) < (t.length : Int) := by omega
      obtain ⟨tb, o, rfl, htb, x0, x1⟩ := (H.out.keep hKr).2.2 i hi
      have hd : t.drop i = t[i] :: t.drop (i + 1) := List.drop_eq_getElem_cons hi
      obtain ⟨x, hx⟩ : ∃ x, x = t[i] := ⟨_, rfl⟩
      rw [← hx] at x0 x1 hd
      rw [hd] at hpl
      have Hms := Lib.hid (show gk - 1 < gk by omega)
      by_cases hc : (⟨b, false⟩ == x) = true
      · rw [preL_cut now _ hc, ← List.append_assoc] at hpl
        rw [← eq_of_beq hc] at x0 x1
        have HSB : Sat (wr.alloc (.cells #[.slice q nl qc] 27 (0, 0))) (arr 27 1 p rl pc (rs.map rwV) * (all rrA rs * (rcA q qc now * keep w))) := by
          rw [hrl2]
          exact (HS.perm (show _ = arr 27 1 p rs.length pc (rs.map rwV) * (all rrA rs * (rcA q qc now * keep w)) by unfold rowsR; ac_rfl)).old _
        have RB := Ran.new HR (.cells #[.slice q nl qc] 27 (0, 0))
        have hnx := Lib.hid (fun p' cap2 w6 (T6 : Sat w6 (arr 27 1 p' (rl + 1) cap2 (rs.map rwV ++ [.slice q nl qc]) * (all rrA rs * (rcA q qc now * keep w)))) (R6 : Ran w w6) => (show RpRel b t w (gk - 1) (.slice p' (rl + 1) cap2) (.slice none 0 0) (.int .i64 ((i : Int) + 1)) w6 from by
          rw [hnl2] at T6
          have T7 := rows_snoc hrl2 T6
          refine ⟨i + 1, p', cap2, rs ++ [⟨q, qc, now⟩], none, 0, [], by omega, rfl, ?_, rfl, ?_, ?_, Nat.zero_le _, ?_, R6⟩
          · rw [List.length_append, hrl2]; rfl
          · rw [hpl, List.map_append]; rfl
          · rw [List.length_append]; show _ + 1 ≤ _; omega
          · exact (T7.nil_arr 66 2).perm (by show rcA none 0 [] * (_ * _) = _; ac_rfl)))
        rw [← hrl2, ← hnl2]
        clear hpl hd hx HS HR hrl hnl hKr hc hg hrl2 hnl2
        go_wp2_with (at_builtin; go_loud (refine appRRw rfl _ _ rfl p rl pc _ rfl _ rfl HSB _ (block_new rfl) rfl hl1 ?_; intro p' cap2 w6 T6 R6; clear HSB))
        have Hrel := Lib.hid (hnx.out p' cap2 w6 T6 (Below.trans RB R6))
        clear T6 R6 RB hnx
        go_roundg (gk - 1)
        case measure => exact Hms.out
        case rel => exact Hrel.out
      · have hc2 : (⟨b, false⟩ == x) = false := by simpa using hc
        rw [preL_next now _ hc2] at hpl
        have HSB : Sat (wr.alloc (.cells #[.int .u8 x.b.toNat, .bool x.q] 66 (0, 0))) (arr 66 2 q nl qc (chCells now) * (rowsR p pc rs * keep w)) := by
          rw [hnl2]
          exact (HS.perm (show _ = rcA q qc now * (rowsR p pc rs * keep w) by ac_rfl)).old _
        have RB := Ran.new HR (.cells #[.int .u8 x.b.toNat, .bool x.q] 66 (0, 0))
        have hsrc := Lib.hid (srcR1 (w := wr.alloc (.cells #[.int .u8 x.b.toNat, .bool x.q] 66 (0, 0))) (c := x) (block_new rfl))
        have hnx := Lib.hid (fun p' cap2 w6 (T6 : Sat w6 (arr 66 2 p' (nl + 1) cap2 (chCells now ++ [.int .u8 x.b.toNat, .bool x.q]) * (rowsR p pc rs * keep w))) (R6 : Ran w w6) => (show RpRel b t w (gk - 1) (.slice p rl pc) (.slice p' (nl + 1) cap2) (.int .i64 ((i : Int) + 1)) w6 from by
          have e1 : (now ++ [x]).length = nl + 1 := by rw [List.length_append, hnl2]; rfl
          refine ⟨i + 1, p, pc, rs, p', cap2, now ++ [x], by omega, rfl, by rw [hrl2], by rw [e1], hpl, by omega, by rw [e1]; omega, ?_, R6⟩
          unfold rcA
          rw [e1, chCells_snoc]
          exact T6.perm (by ac_rfl)))
        have hcs := ch_facts2 hc2
        rw [← hrl2, ← hnl2]
        clear hpl hd hx HS HR hrl hnl hKr hc hc2 hg hrl2 hnl2
        rcases hcs with e1 | ⟨e1, e2⟩
        · go_wp2_with (at_builtin; go_loud (refine appRC rfl _ _ rfl q nl qc _ rfl _ rfl 1 _ hsrc.out HSB hl2 ?_; intro p' cap2 w6 T6 R6; clear HSB))
          have Hrel := Lib.hid (hnx.out p' cap2 w6 T6 (Below.trans RB R6))
          clear T6 R6 RB hnx
          go_roundg (gk - 1)
          case measure => exact Hms.out
          case rel => exact Hrel.out
        · rw [e2] at x1 HSB RB hsrc hnx
          clear e2
          go_wp2_with (at_builtin; go_loud (refine appRC rfl _ _ rfl q nl qc _ rfl _ rfl 1 _ hsrc.out HSB hl2 ?_; intro p' cap2 w6 T6 R6; clear HSB))
          have Hrel := Lib.hid (hnx.out p' cap2 w6 T6 (Below.trans RB R6))
          clear T6 R6 RB hnx
          go_roundg (gk - 1)
          case measure => exact Hms.out
          case rel => exact Hrel.out
    · have hge : ¬ ((i : Int) < (t.length : Int)) := by omega
      have hd : t.drop i = [] := List.drop_eq_nil_of_le (by omega)
      rw [hd, preL_end] at hpl
      have HSB : Sat (wr.alloc (.cells #[.slice q nl qc] 27 (0, 0))) (arr 27 1 p rl pc (rs.map rwV) * (all rrA rs * (rcA q qc now * keep w))) := by
        rw [hrl2]
        exact (HS.perm (show _ = arr 27 1 p rs.length pc (rs.map rwV) * (all rrA rs * (rcA q qc now * keep w)) by unfold rowsR; ac_rfl)).old _
      have RB := Ran.new HR (.cells #[.slice q nl qc] 27 (0, 0))
      have hnx := Lib.hid (fun p' cap2 w6 (T6 : Sat w6 (arr 27 1 p' (rl + 1) cap2 (rs.map rwV ++ [.slice q nl qc]) * (all rrA rs * (rcA q qc now * keep w)))) (R6 : Ran w w6) => (show PartsPost (partL b t) w (.returned (.slice p' (rl + 1) cap2)) w6 from by
        rw [hnl2] at T6
        have T7 := rows_snoc hrl2 T6
        refine ⟨p', cap2, rs ++ [⟨q, qc, now⟩], ?_, ?_, rowsR_of T7, R6.whole T7⟩
        · rw [List.length_append, hrl2]; rfl
        · rw [hpl, List.map_append]; rfl))
      rw [← hrl2, ← hnl2]
      clear hpl hd HS HR hrl hnl hKr hg hrl2 hnl2
      go_wp2_with (at_builtin; go_loud (refine appRRw rfl _ _ rfl p rl pc _ rfl _ rfl HSB _ (block_new rfl) rfl hl1 ?_; intro p' cap2 w6 T6 R6; clear HSB))
      go_ret
      exact hnx.out p' cap2 w6 T6 (Below.trans RB R6)
end Go.Proofs.YtlpfcnpdecoblaaDoor.Marks
