/- Part, Grow, Concat, Join walked. -/
import Derived.Test.YtlpfcnpdecoblaaDoorMkD
namespace Go.Proofs.YtlpfcnpdecoblaaDoor.Marks
open Go.RowKit Go.Proofs.YtlpfcnpdecoblaaDoor Go.Proofs.YtlpfcnpdecoblaaDoor.Hp
set_option linter.unusedVariables false
attribute [local go_sem] Oper.semAt_some

/-- What stands between bare bytes. -/
def partL (b : UInt8) : List Ch → List (List Ch)
  | [] => [[]]
  | x :: t => if (⟨b, false⟩ == x) = true then [] :: partL b t else match partL b t with
    | [] => [[x]]
    | l :: ls => (x :: l) :: ls
theorem partL_cons (b : UInt8) (x : Ch) (t : List Ch) : partL b (x :: t) = if (⟨b, false⟩ == x) = true then [] :: partL b t else match partL b t with
    | [] => [[x]]
    | l :: ls => (x :: l) :: ls := rfl
theorem kept_of {w W : World} {S : Hp} (h : Sat W (S * keep w)) : Kept w W := by
  have hk := h.right.kept
  refine ⟨?_, hk⟩
  rcases Nat.lt_or_ge W.heap.size w.heap.size with hlt | hge
  · exfalso
    have h1 := hk W.heap.size hlt
    rw [Array.getElem?_eq_none (Nat.le_refl _), Array.getElem?_eq_getElem hlt] at h1
    cases h1
  · exact hge
theorem partL_ne (b : UInt8) (t : List Ch) : partL b t ≠ [] := by
  cases t with
  | nil => simp [partL]
  | cons x t =>
    unfold partL
    split
    · simp
    · split <;> simp
theorem part_none (b : UInt8) (t : List Ch) (h : ∀ x ∈ t, (⟨b, false⟩ == x) = false) : partL b t = [t] := by
  induction t with
  | nil => rfl
  | cons x t ih =>
    unfold partL
    rw [h x (List.mem_cons_self ..), ih fun y hy => h y (List.mem_cons_of_mem _ hy)]
    rfl
theorem part_some (b : UInt8) (t : List Ch) (j : Nat) (hj : j < t.length) (h1 : (⟨b, false⟩ == t[j]) = true) (h2 : ∀ i (hi : i < t.length), i < j → (⟨b, false⟩ == t[i]) = false) : partL b t = t.take j :: partL b (t.drop (j + 1)) := by
  induction t generalizing j with
  | nil => simp at hj
  | cons x t ih =>
    rw [partL_cons]
    cases j with
    | zero =>
      have h1' : (⟨b, false⟩ == x) = true := h1
      rw [if_pos h1']; rfl
    | succ j =>
      have h0 : (⟨b, false⟩ == x) = false := h2 0 (by simp) (by omega)
      have := ih j (by simpa using hj) (by simpa using h1) (fun i hi hij => by have := h2 (i + 1) (by simpa using hi) (by omega); simpa using this)
      rw [h0, this, if_neg (by decide)]
      rfl
/-- A marked text and where it lies. -/
structure Rw where
  p : Option Addr
  cap : Nat
  L : List Ch
def rwV (x : Rw) : Value := .slice x.p x.L.length x.cap
def rwA (x : Rw) : Hp := chA x.p x.cap x.L
theorem infoRw : (Tryd.prog.info? 22).map (fun i => (i.zero, i.size, i.bytes)) = some (some (.slice none 0 0), 1, 24) := by kernel_rfl
theorem appRw {w : World} {H : Hp} {ops : Array Oper} {rest : List Oper} {o : Oper} {a : Act} {Q : Exit → Act → World → Prop} (hgd : o.guard = none) (s x : Operand)
    (ho : o.op = .call { callee := .builtin .append, args := #[s, x], argTypes := #[43, 43] })
    (p : Option Addr) (n cap : Nat) (xs : List Value) (hp : a.eval s = .slice p n cap) (b : Nat) (hvx : a.eval x = .slice (some ⟨b, 0, none⟩) 1 1) (h : Sat w (arr 22 1 p n cap xs * H)) (v : Value) (hb : w.heap[b]? = some (.cells #[v] 22 (0, 0))) (h0 : v.oneCell' = true) (hn : n ≤ 1000000000)
    (hk : ∀ p' cap' w', Sat w' (arr 22 1 p' (n + 1) cap' (xs ++ [v]) * H) → Ran w w' → wpList Tryd.prog ops Q rest (a.put o.dst (.slice p' (n + 1) cap')) w') : wpList Tryd.prog ops Q (o :: rest) a w := by
  obtain ⟨i0, hi, hz0, hz1, hz2⟩ := info_parts infoRw
  refine wpList_append_arr hgd s x _ _ ho 22 i0 _ 1 24 Tryd.underlying43 hi hz0 hz1 hz2 rfl p n cap xs hp h _ hvx 1 [v] (Src.ofSlice w Tryd.underlying43 ⟨b, 0, none⟩ 1 1 [v] (by rw [hz1]; rfl) ?_ (by simp [h0])) (by omega) (by unfold maxLen; omega) (fun p' cap' w' h1 h2 _ => hk p' cap' w' h1 h2)
  intro j u hj
  rw [Addr.add_lit, Nat.zero_add, cell_at hb, ← hj]
  simp
/-- Rows of a call's own, in a slice of its own. -/
def rowsA (p : Option Addr) (cap : Nat) (rs : List Rw) : Hp := arr 22 1 p rs.length cap (rs.map rwV) * all rwA rs
def PartPost (b : UInt8) (t : List Ch) (S : Hp) (e : Ending) (w' : World) : Prop := ∃ p cap rs, e = .returned (.slice p (List.length rs) cap) ∧ rs.map Rw.L = partL b t ∧ Sat w' (rowsA p cap rs * S)
def PtRel (b : UInt8) (t : List Ch) (w : World) (g : Nat) (tv ov : Value) (wr : World) : Prop :=
  ∃ (ao : Option Addr) (cap : Nat) (u : List Ch) (p : Option Addr) (pc : Nat) (rs : List Rw), u.length = g ∧ tv = .slice ao u.length cap ∧ ov = .slice p rs.length pc ∧ CharsAt w ao cap u ∧ partL b t = rs.map Rw.L ++ partL b u ∧ rs.length + u.length ≤ t.length ∧ Sat wr (rowsA p pc rs * keep w) ∧ Ran w wr
set_option maxRecDepth 100000 in
set_option maxHeartbeats 2000000 in
theorem part_calls (t : List Ch) (ao : Option Addr) (cap : Nat) (b : UInt8) (w : World) (h : CharsAt w ao cap t) (hm : t.length ≤ 100000) :
    Calls Tryd.prog 22 #[.slice ao t.length cap, .int .u8 b.toNat] w fun e w' => PartPost b t (keep w) e w' ∧ Ran w w' := by
  have H0 : Sat (w.alloc (.cells #[] 22 (0, 0))) (rowsA (some ⟨w.heap.size, 0, none⟩) 0 [] * keep w) := by
    have h1 : Sat (w.alloc (.cells #[] 22 (0, 0))) (arr 22 1 (some ⟨w.heap.size, 0, none⟩) 0 0 [] * keep w) := Sat.arr_mk (Nat.le_refl _) (Nat.zero_le _) (by simp) (by simp) (fun j hj => by simp at hj) ((Sat.start w).alloc _)
    exact h1.perm (by unfold rowsA; show _ = (_ * emp) * _; rw [sep_emp]; rfl)
  have R0 := Ran.new (Below.refl 0 w) (.cells #[] 22 (0, 0))
  have Hh := Lib.hid h
  have H0 := Lib.hid H0
  clear h
  go_enter Tryd.func22, Tryd.ntmps22
  go_wp2_with fail
  go_loopg [0, 5] (t.length) (fun (g : Nat) (tv ov : Value) (wr : World) => PtRel b t w g tv ov wr)
  case atStart => exact ⟨ao, cap, t, _, 0, [], rfl, rfl, rfl, Hh.out, rfl, by simp, H0.out, R0⟩
  case round =>
    clear H0 R0
    obtain ⟨ao', cap', u, p, pc, rs, hg, rfl, rfl, hC, hpl, hlen, HS, HR⟩ := hrel
    have hkp := HS.right.kept
    have hKr : Kept w wr := ⟨HR.size, hkp⟩
    have hfind := Lib.hid (find_calls u ao' cap' b wr (hC.keep hKr) (by omega))
    have hrsl : rs.length ≤ 1000000000 := by omega
    rcases idx_cases (⟨b, false⟩ == ·) u with hno | ⟨j, hj, h1, h2⟩
    · rw [idx_none hno] at hfind
      have hfin := part_none b u hno
      rw [hfin] at hpl
      have Hpl := Lib.hid hpl
      have HC := Lib.hid hC
      have HS0 := Lib.hid HS
      have Hlen := Lib.hid hlen
      clear hno hfin hpl hC HS hg hlen hkp hKr
      go_wp2_with fail
      refine hfind.out.mono ?_
      rintro e w2 ⟨rfl, hb2⟩
      have HS2 := HS0.out.below hb2
      have R2 : Ran w w2 := Below.trans HR (hb2.mono (Nat.zero_le _))
      have hcl := Lib.hid (clone_calls u ao' cap' w2 _ (fun W S' hs => HC.out.keep (kept_of (hs.perm (show _ = rowsA p pc rs * S' * keep w by ac_rfl)))) HS2 (by have := Hlen.out; omega))
      clear HS2
      go_wp2_with fail
      refine hcl.out.mono ?_
      rintro e w3 ⟨⟨q, qc, rfl, HS3⟩, R3⟩
      have R4 := Below.trans R2 R3
      have HSB := (HS3.perm (show _ = arr 22 1 p rs.length pc (rs.map rwV) * (all rwA rs * (chA q qc u * keep w)) by unfold rowsA; ac_rfl)).old (.cells #[.slice q u.length qc] 22 (0, 0))
      have RB := Ran.new R4 (.cells #[.slice q u.length qc] 22 (0, 0))
      clear HS3 R3 hcl
      go_wp2_with (at_builtin; go_loud (refine appRw rfl _ _ rfl p rs.length pc _ rfl _ rfl HSB _ (block_new rfl) rfl hrsl ?_; intro p' cap2 w6 T6 R6; clear HSB))
      go_ret
      refine ⟨⟨p', cap2, rs ++ [⟨q, qc, u⟩], ?_, ?_, ?_⟩, Below.trans RB R6⟩
      · rw [List.length_append]; rfl
      · rw [Hpl.out, List.map_append]; rfl
      · unfold rowsA
        rw [List.length_append, List.map_append, all_append]
        exact T6.perm (by show arr 22 1 p' (rs.length + 1) cap2 (rs.map rwV ++ [.slice q u.length qc]) * _ = (arr 22 1 p' (rs.length + 1) cap2 (rs.map rwV ++ [.slice q u.length qc]) * (_ * (chA q qc u * emp))) * _; rw [sep_emp]; ac_rfl)
    · rw [idx_some hj h1 h2] at hfind
      have hfin := part_some b u j hj h1 h2
      rw [hfin] at hpl
      have Hpl := Lib.hid hpl
      have HC := Lib.hid hC
      have HS0 := Lib.hid HS
      have Hlen := Lib.hid hlen
      have hj0 : (0 : Int) ≤ (j : Int) := by omega
      have hj1 : ¬ ((j : Int) < 0) := by omega
      have hjl : (j : Int) < (u.length : Int) := by omega
      have hjc : (j : Int) ≤ (cap' : Int) := by have := hC.1; omega
      have hjm : (j : Int) ≤ 100000 := by omega
      have htk : (u.take j).length = j := by rw [List.length_take]; omega
      have hsl : ∀ W, (Instr.slice 22 (.slice ao' u.length cap') (some (.int .i64 ((j : Int) + 1))) none none).run Tryd.prog W = .ok (.slice (tailA ao' (j + 1) cap' 2) (u.length - (j + 1)) (cap' - (j + 1))) W := fun W => slice_from ao' u.length cap' (j + 1) (by omega) W
      have hdl : (u.drop (j + 1)).length = u.length - (j + 1) := List.length_drop
      have HC2 := Lib.hid (hC.tail (j + 1) (by omega))
      have Htk := Lib.hid htk
      have Hdl := Lib.hid hdl
      have Hg := Lib.hid hg
      have Hj := Lib.hid hj
      clear h1 h2 hfin hpl hC HS hg hlen hkp hKr htk hdl hj
      go_wp2_with fail
      refine hfind.out.mono ?_
      rintro e w2 ⟨rfl, hb2⟩
      have HS2 := HS0.out.below hb2
      have R2 : Ran w w2 := Below.trans HR (hb2.mono (Nat.zero_le _))
      have hcl := clone_calls (u.take j) ao' cap' w2 _ (fun W S' hs => (HC.out.keep (kept_of (hs.perm (show _ = rowsA p pc rs * S' * keep w by ac_rfl)))).take j) HS2 (by rw [Htk.out]; have := Hlen.out; omega)
      rw [Htk.out] at hcl
      have hcl := Lib.hid hcl
      clear HS2
      go_wp2_with fail
      refine hcl.out.mono ?_
      rintro e w3 ⟨⟨q, qc, he, HS3⟩, R3⟩
      rw [Htk.out] at he
      subst he
      have R4 := Below.trans R2 R3
      have HSB := (HS3.perm (show _ = arr 22 1 p rs.length pc (rs.map rwV) * (all rwA rs * (chA q qc (u.take j) * keep w)) by unfold rowsA; ac_rfl)).old (.cells #[.slice q j qc] 22 (0, 0))
      have RB := Ran.new R4 (.cells #[.slice q j qc] 22 (0, 0))
      clear HS3 R3 hcl
      go_wp2_with (at_builtin; go_loud (refine appRw rfl _ _ rfl p rs.length pc _ rfl _ rfl HSB _ (block_new rfl) rfl hrsl ?_; intro p' cap2 w6 T6 R6; clear HSB))
      have Hrel := Lib.hid (show PtRel b t w (gk - (j + 1)) (.slice (tailA ao' (j + 1) cap' 2) (u.length - (j + 1)) (cap' - (j + 1))) (.slice p' (rs.length + 1) cap2) w6 from by
        refine ⟨_, _, u.drop (j + 1), p', cap2, rs ++ [⟨q, qc, u.take j⟩], by rw [Hdl.out, Hg.out], by rw [Hdl.out], ?_, HC2.out, ?_, ?_, ?_, Below.trans RB R6⟩
        · rw [List.length_append]; rfl
        · rw [Hpl.out, List.map_append, List.append_assoc]; rfl
        · rw [List.length_append, Hdl.out]; have := Hlen.out; have := Hj.out; simp; omega
        · unfold rowsA
          rw [List.length_append, List.map_append, all_append]
          have e1 : [(⟨q, qc, u.take j⟩ : Rw)].map rwV = [.slice q j qc] := by simp [rwV, Htk.out]
          rw [e1]
          exact T6.perm (by show arr 22 1 p' (rs.length + 1) cap2 (rs.map rwV ++ [.slice q j qc]) * _ = (arr 22 1 p' (rs.length + 1) cap2 (rs.map rwV ++ [.slice q j qc]) * (_ * (chA q qc (u.take j) * emp))) * _; rw [sep_emp]; ac_rfl))
      clear T6 R6 RB
      go_roundg (gk - (j + 1))
      case measure => have := Hg.out; have := Hj.out; omega
      case rel => exact Hrel.out
end Go.Proofs.YtlpfcnpdecoblaaDoor.Marks
