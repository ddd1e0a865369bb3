/- HandlesPlays, part 16 of 29: the texts StTi StTj StTk StSo, joined by a program. -/
import Derived.Test.YtlmjidandjemjaaGreatDoorSp15
import Derived.Test.YtlmjidandjemjaaGreatDoorSp2
import Derived.Test.YtlmjidandjemjaaGreatDoorSp10
import Derived.Laws.Concat
import Derived.Test.YtlmjidandjemjaaGreatDoorSp8
import Derived.Test.YtlmjidandjemjaaGreatDoorShb
import Derived.Sort.LotA
import Derived.Sort.Row
import Derived.BigGuard
import Derived.BigCall
import Derived.CellFam
import Derived.Deep.Draws
import Derived.Deep.QuietTactic
import Derived.BigQuiet
namespace Go.Proofs.YtlmjidandjemjaaGreatDoor.State
open Go.RowKit Go.Proofs.YtlmjidandjemjaaGreatDoor Go.Proofs.YtlmjidandjemjaaGreatDoor.Hp Go.Proofs.YtlmjidandjemjaaGreatDoor.Undo
set_option linter.unusedVariables false
attribute [local go_sem] Oper.semAt_some

theorem infoStr : (Tryz.prog.info? 9).map (fun i => (i.zero, i.size, i.bytes)) = some (some (.string ⟨#[]⟩), 1, 16) := by kernel_rfl
theorem str_from (ao : Option Addr) (len cap n : Nat) (hn : n ≤ len) (w : World) : (Instr.slice 22 (.slice ao len cap) (some (.int .i64 n)) none none).run Tryz.prog w = .ok (.slice (tailA ao n cap 1) (len - n) (cap - n)) w := by
  obtain ⟨i0, hi, hz0, hz1, hz2⟩ := info_parts infoStr
  exact run_slice_from _ _ i0 1 Tryz.underlying22 hi hz1 ao len cap n hn w
def cut (g : GC.Giv) (k : Nat) : GC.Giv := ⟨tailA g.p k g.cap 1, g.n - k, g.cap - k, g.here, g.within, g.l.drop k⟩
theorem GOk.cut {rws : List Row1} {g : GC.Giv} {k : Nat} (h : GOk rws g) (hk : k ≤ g.n) : GOk rws (cut g k) := by
  obtain ⟨h1, h2, h3⟩ := h
  refine ⟨by show g.n - k = (g.l.drop k).length; rw [List.length_drop, h1], by show g.n - k ≤ g.cap - k; omega, ?_⟩
  rcases h3 with h3 | ⟨x, hx, b, o, j, hp, hq, hl⟩
  · left; show g.l.drop k = []; rw [h3]; simp
  · by_cases hc : g.cap = k
    · left
      show g.l.drop k = []
      rw [List.drop_eq_nil_iff]; omega
    · right
      refine ⟨x, hx, b, o, j + k, hp, ?_, ?_⟩
      · show tailA g.p k g.cap 1 = _
        unfold tailA
        rw [if_neg hc, hq]
        simp [Addr.add, Nat.add_assoc]
      · show g.l.drop k = _
        rw [hl, List.drop_drop]
set_option maxRecDepth 100000 in
set_option maxHeartbeats 8000000 in
theorem Shift_calls (K : Ctx) (n : Now) (k : Int) (w : World) (R : Hp) (hl : n.s.l.length ≤ 1000000) (hN : n.N ≤ 1000000) (hms : n.ms.length ≤ 1000000) (h : SAt K w n R) :
    Calls Tryz.prog 36 #[pp K.sb, .int .i64 k] w (Lays K w R (n.shiftP K.most k)) := by
  obtain ⟨r, hr⟩ : ∃ r, r = n.shiftP K.most k := ⟨_, rfl⟩
  rw [← hr]
  unfold Now.shiftP at hr
  have Hr := Lib.hid hr
  obtain ⟨g, rws, hG⟩ := h.args
  have HV := Lib.hid (given_calls K n g rws w R hG)
  have H0 := Lib.hid hG
  have hgn : g.n = n.s.l.length := by rw [hG.facts.1.1, hG.facts.2.1]
  have Hgn := Lib.hid hgn
  have HF := Lib.hid (And.intro hN (And.intro hms hl))
  clear h hG hr hgn hN hms hl
  go_enter Tryz.func36, Tryz.ntmps36
  go_wp2_with fail
  refine HV.out.mono ?_
  rintro e w1 ⟨rfl, hB⟩
  have S1 := (H0.out.below hB).alloc (GC.gO g)
  have R1 : Ran w (w1.alloc (GC.gO g)) := Ran.new (hB.mono (Nat.zero_le _)) _
  obtain ⟨w2, hw2⟩ : ∃ w2, w2 = w1.alloc (GC.gO g) := ⟨_, rfl⟩
  obtain ⟨xb, hxb⟩ : ∃ b, b = w1.heap.size := ⟨_, rfl⟩
  rw [← hw2, ← hxb] at S1
  rw [← hw2] at R1
  obtain ⟨e0, e1, e2⟩ := GC.g_cells S1.shut.rest
  have ez : ∀ i, w2.frozen? ⟨xb, i, none⟩ = false := fun i => free_at S1.shut.rest.get i
  obtain ⟨c0, c1, c2, c3, c4, c5, c6, cz⟩ := S1.shut.cells
  have S2 := Lib.hid S1
  have R2 := Lib.hid R1
  clear H0 HV hB S1 R1
  go_upto_region 2 with fail
  rw [← hw2, ← hxb]
  clear hw2 hxb
  have hr := Hr.out
  have hgn := Hgn.out
  by_cases hk0 : k < 0
  · rw [if_pos (Or.inl hk0)] at hr
    subst hr
    clear Hr HF hgn
    go_wp2_with fail
    go_ret
    exact Lays.same S2.out.shut.right R2.out
  · by_cases hk1 : (n.s.l.length : Int) < k
    · rw [if_pos (Or.inr hk1)] at hr
      subst hr
      have hk2 : (g.n : Int) < k := by omega
      have hk3 : 0 ≤ k := by omega
      clear Hr HF hgn hk1
      go_wp2_with fail
      go_ret
      exact Lays.same S2.out.shut.right R2.out
    · rw [if_neg (by omega)] at hr
      subst hr
      have hk2 : ¬ ((g.n : Int) < k) := by omega
      have hk4 : k ≤ g.n := by omega
      have hk3 : 0 ≤ k := by omega
      obtain ⟨j, hj⟩ : ∃ j : Nat, k = j := ⟨k.toNat, by omega⟩
      subst hj
      have hsl := fun W => str_from g.p g.n g.cap j (by omega) W
      have hjn : j ≤ g.n := by omega
      have Hj := Lib.hid hjn
      clear Hr hgn hk1 hk0 hjn
      go_upto_region 7 with fail
      have HS3 : SGt K (w2.setCell ⟨xb, 0, none⟩ (.slice (tailA g.p j g.cap 1) (g.n - j) (g.cap - j))) n g rws (pts xb (GC.gO (cut g j)) * R) := by
        obtain ⟨X, hX1, hX2⟩ := S2.out.frame
        refine hX2 _ _ ?_
        have := (hX1.perm (show _ = pts xb (GC.gO g) * (X * (all row1 rws * R)) by ac_rfl)).set (i := 0) (.slice (tailA g.p j g.cap 1) (g.n - j) (g.cap - j))
        exact this.perm (by show pts xb (GC.gO (cut g j)) * _ = _; ac_rfl)
      obtain ⟨w3, hw3⟩ : ∃ w3, w3 = w2.setCell ⟨xb, 0, none⟩ (.slice (tailA g.p j g.cap 1) (g.n - j) (g.cap - j)) := ⟨_, rfl⟩
      have R3 : Ran w w3 := by rw [hw3]; exact Ran.set R2.out _ _
      rw [← hw3] at HS3 ⊢
      have hok := (S2.out.facts.1).cut Hj.out
      have hfa := S2.out.facts
      clear hw3 S2 R2 e0 e1 e2 c0 c1 c2 c3 c4 c5 c6 cz ez
      obtain ⟨y, hy⟩ : ∃ y, y = cut g j := ⟨_, rfl⟩
      have hyl : y.l = n.s.l.drop j ∧ y.here = n.s.here ∧ y.within = n.s.within := by rw [hy]; exact ⟨by show g.l.drop j = _; rw [hfa.2.1], hfa.2.2.1, hfa.2.2.2⟩
      rw [← hy] at HS3 hok
      obtain ⟨e0, e1, e2⟩ := GC.g_cells HS3.shut.rest
      obtain ⟨c0, c1, c2, c3, c4, c5, c6, cz⟩ := HS3.shut.cells
      have HSt := Lib.hid (SGt.cset K w3.drew n g rws _ y hok HF.out.1 HF.out.2.1 (by
        obtain ⟨X, hX1, hX2⟩ := HS3.frame
        exact hX2 _ _ hX1.drew))
      have R3 := Lib.hid R3
      have Hyl := Lib.hid hyl
      clear HS3 hy hok hfa hyl hsl hk2 hk3 hk4
      go_wp2_with fail
      refine region_plan (S := (fun w' => w'.cell? ⟨K.sb, 5, none⟩ = some (pp K.P.gb) ∧ w'.cell? ⟨xb, 0, none⟩ = some (.slice y.p y.n y.cap) ∧ w'.cell? ⟨xb, 1, none⟩ = some (.int .i64 y.here) ∧ w'.cell? ⟨xb, 2, none⟩ = some (.int .i64 y.within))) [(0, true), (1, true), (2, true), (3, true), (4, true), (5, false), (6, true)] (by kernel_rfl) (by kernel_rfl) (by kernel_rfl) ?_ ?_
      · ((try dsimp only); (first | done | (first | exact ⟨c5, e0, e1, e2⟩ | exact ⟨hz5, hz2⟩)))
      simp only [planOps, List.map_cons, List.map_nil, List.getElem?_toArray, List.getElem?_cons_zero, List.getElem?_cons_succ]
      repeat (first
        | ((refine plan_yes (v := ?_) (by rfl) ?_ ?_); rotate_left; (focus (intro w hSw; (try dsimp only at hSw); go_simp; try (with_reducible rfl))); (try simp only [Act.put, List.setIfInBounds_toArray, List.set_cons_zero, List.set_cons_succ]))
        | ((refine plan_no (by rfl) ?_); (try simp only [Act.put, List.setIfInBounds_toArray, List.set_cons_zero, List.set_cons_succ]))
        | ((refine plan_step (fun K hK => ?_)); (first | (go_simp; (go_at_call 42; refine HSt.out.mono ?_; rintro e w4 ⟨⟨rfl, hS⟩, hR⟩; obtain ⟨-, -, -, -, -, hz5, -, -⟩ := hS.cells; have hz2 := GC.g_cells hS.rest; have HS := Lib.hid hS; have HRn := Lib.hid hR; clear hS hR); (try go_wp2_with fail)) | go_simp); (refine hK.out _ _ ?_ (fun hHeld => ?_)); (focus ((try dsimp only); (first | done | (first | exact ⟨c5, e0, e1, e2⟩ | exact ⟨hz5, hz2⟩)))); clear hK K; (try simp only [Act.put, List.setIfInBounds_toArray, List.set_cons_zero, List.set_cons_succ])))
      refine plan_done ?_
      go_wp2_with fail
      go_ret
      have heq : ({ n.s with l := y.l, here := y.here, within := y.within } : Pst) = { n.s with l := n.s.l.drop (j : Int).toNat } := by rw [Hyl.out.1, Hyl.out.2.1, Hyl.out.2.2]; rfl
      have hS := HS.out.right
      rw [heq] at hS
      exact ⟨⟨by rw [← heq]; rfl, hS⟩, Below.trans (Below.drew R3.out) HRn.out⟩
set_option maxRecDepth 100000 in
set_option maxHeartbeats 8000000 in
theorem SetCursor_calls (K : Ctx) (n : Now) (a i : Int) (w : World) (R : Hp) (hN : n.N ≤ 1000000) (hms : n.ms.length ≤ 1000000) (h : SAt K w n R) :
    Calls Tryz.prog 57 #[pp K.sb, .int .i64 a, .int .i64 i] w (Lays K w R (n.setC K.most a i)) := by
  obtain ⟨r, hr⟩ : ∃ r, r = n.setC K.most a i := ⟨_, rfl⟩
  rw [← hr]
  unfold Now.setC at hr
  by_cases hbad : a < 0 ∨ i < 0
  · rw [if_pos hbad] at hr
    subst hr
    have H0 := Lib.hid h
    clear h hN hms
    by_cases ha : a < 0
    · clear hbad
      go_enter Tryz.func57, Tryz.ntmps57
      go_wp2_with fail
      go_ret
      exact Lays.same H0.out (Below.refl 0 w)
    · have hi : i < 0 := by omega
      have ha2 : 0 ≤ a := by omega
      clear hbad
      go_enter Tryz.func57, Tryz.ntmps57
      go_wp2_with fail
      go_ret
      exact Lays.same H0.out (Below.refl 0 w)
  · rw [if_neg hbad] at hr
    subst hr
    have ha2 : ¬ (a < 0) := by omega
    have hi2 : ¬ (i < 0) := by omega
    have ha : 0 ≤ a := by omega
    have hi : 0 ≤ i := by omega
    obtain ⟨g, rws, hG⟩ := h.args
    have HV := Lib.hid (given_calls K n g rws w R hG)
    have H0 := Lib.hid hG
    have HF := Lib.hid (And.intro hN hms)
    clear h hG hbad hN hms
    go_enter Tryz.func57, Tryz.ntmps57
    go_wp2_with fail
    refine HV.out.mono ?_
    rintro e w1 ⟨rfl, hB⟩
    have S1 := (H0.out.below hB).alloc (GC.gO ⟨g.p, g.n, g.cap, a, i, g.l⟩)
    have R1 : Ran w (w1.alloc (GC.gO ⟨g.p, g.n, g.cap, a, i, g.l⟩)) := Ran.new (hB.mono (Nat.zero_le _)) _
    have hok : GOk rws ⟨g.p, g.n, g.cap, a, i, g.l⟩ := (H0.out.facts).1
    have hgl := H0.out.facts.2.1
    go_upto_region 7 with fail
    obtain ⟨y, hy⟩ : ∃ y : GC.Giv, y = ⟨g.p, g.n, g.cap, a, i, g.l⟩ := ⟨_, rfl⟩
    obtain ⟨w3, hw3⟩ : ∃ w3, w3 = w1.alloc (GC.gO y) := ⟨_, rfl⟩
    obtain ⟨xb, hxb⟩ : ∃ b, b = w1.heap.size := ⟨_, rfl⟩
    rw [← hy] at S1 R1 hok
    rw [← hw3, ← hxb] at S1
    rw [← hw3] at R1
    have hyl : y.l = n.s.l ∧ y.here = a ∧ y.within = i := by rw [hy]; exact ⟨hgl, rfl, rfl⟩
    rw [show w1.alloc (Obj.cells #[.slice g.p g.n g.cap, .int .i64 a, .int .i64 i] 83 (0, 0)) = w3 by rw [hw3, hy], ← hxb]
    obtain ⟨e0, e1, e2⟩ := GC.g_cells S1.shut.rest
    obtain ⟨c0, c1, c2, c3, c4, c5, c6, cz⟩ := S1.shut.cells
    have HSt := Lib.hid (SGt.cset K w3.drew n g rws _ y hok HF.out.1 HF.out.2 (by
      obtain ⟨X, hX1, hX2⟩ := S1.frame
      exact hX2 _ _ hX1.drew))
    have R3 := Lib.hid R1
    have Hyl := Lib.hid hyl
    clear S1 hy hok hyl ha hi ha2 hi2 hgl hw3 hxb hB R1 H0 HV
    go_wp2_with fail
    refine region_plan (S := (fun w' => w'.cell? ⟨K.sb, 5, none⟩ = some (pp K.P.gb) ∧ w'.cell? ⟨xb, 0, none⟩ = some (.slice y.p y.n y.cap) ∧ w'.cell? ⟨xb, 1, none⟩ = some (.int .i64 y.here) ∧ w'.cell? ⟨xb, 2, none⟩ = some (.int .i64 y.within))) [(0, true), (1, true), (2, true), (3, true), (4, true), (5, false), (6, true)] (by kernel_rfl) (by kernel_rfl) (by kernel_rfl) ?_ ?_
    · ((try dsimp only); (first | done | (first | exact ⟨c5, e0, e1, e2⟩ | exact ⟨hz5, hz2⟩)))
    simp only [planOps, List.map_cons, List.map_nil, List.getElem?_toArray, List.getElem?_cons_zero, List.getElem?_cons_succ]
    repeat (first
      | ((refine plan_yes (v := ?_) (by rfl) ?_ ?_); rotate_left; (focus (intro w hSw; (try dsimp only at hSw); go_simp; try (with_reducible rfl))); (try simp only [Act.put, List.setIfInBounds_toArray, List.set_cons_zero, List.set_cons_succ]))
      | ((refine plan_no (by rfl) ?_); (try simp only [Act.put, List.setIfInBounds_toArray, List.set_cons_zero, List.set_cons_succ]))
      | ((refine plan_step (fun K hK => ?_)); (first | (go_simp; (go_at_call 42; refine HSt.out.mono ?_; rintro e w4 ⟨⟨rfl, hS⟩, hR⟩; obtain ⟨-, -, -, -, -, hz5, -, -⟩ := hS.cells; have hz2 := GC.g_cells hS.rest; have HS := Lib.hid hS; have HRn := Lib.hid hR; clear hS hR); (try go_wp2_with fail)) | go_simp); (refine hK.out _ _ ?_ (fun hHeld => ?_)); (focus ((try dsimp only); (first | done | (first | exact ⟨c5, e0, e1, e2⟩ | exact ⟨hz5, hz2⟩)))); clear hK K; (try simp only [Act.put, List.setIfInBounds_toArray, List.set_cons_zero, List.set_cons_succ])))
    refine plan_done ?_
    go_wp2_with fail
    go_ret
    have heq : ({ n.s with l := y.l, here := y.here, within := y.within } : Pst) = { n.s with here := a, within := i } := by rw [Hyl.out.1, Hyl.out.2.1, Hyl.out.2.2]
    have hS := HS.out.right
    rw [heq] at hS
    exact ⟨⟨by rw [← heq]; rfl, hS⟩, Below.trans (Below.drew R3.out) HRn.out⟩
set_option maxRecDepth 100000 in
set_option maxHeartbeats 8000000 in
theorem Cursor_calls (K : Ctx) (n : Now) (w : World) (R : Hp) (h : SAt K w n R) :
    Calls Tryz.prog 22 #[pp K.sb] w fun e w' => e = .returned (.tuple #[.int .i64 n.s.here, .int .i64 n.s.within]) ∧ Below w.heap.size w w' := by
  obtain ⟨g, rws, hG⟩ := h.args
  have HV := Lib.hid (given_calls K n g rws w R hG)
  have H0 := Lib.hid hG
  obtain ⟨_, _, hh, hi⟩ := hG.facts
  rw [← hh, ← hi]
  clear h hG hh hi
  go_enter Tryz.func22, Tryz.ntmps22
  go_wp2_with fail
  refine HV.out.mono ?_
  rintro e w1 ⟨rfl, hB⟩
  have S1 := (H0.out.below hB).alloc (GC.gO g)
  have hB2 := hB.alloc hB.size (GC.gO g)
  obtain ⟨w2, hw2⟩ : ∃ w2, w2 = w1.alloc (GC.gO g) := ⟨_, rfl⟩
  obtain ⟨xb, hxb⟩ : ∃ b, b = w1.heap.size := ⟨_, rfl⟩
  rw [← hw2, ← hxb] at S1
  rw [← hw2] at hB2
  obtain ⟨e0, e1, e2⟩ := GC.g_cells S1.shut.rest
  have HB2 := Lib.hid hB2
  clear H0 HV hB S1 hB2
  go_upto_region 2 with fail
  rw [← hw2, ← hxb]
  clear hw2 hxb
  go_wp2_with fail
  go_quiet (fail)
  go_wp2_with fail
  go_ret2
  exact ⟨rfl, below_drewN HB2.out _⟩
end Go.Proofs.YtlmjidandjemjaaGreatDoor.State

namespace Go.Proofs.YtlmjidandjemjaaGreatDoor.State
open Go.RowKit Go.Proofs.YtlmjidandjemjaaGreatDoor Go.Proofs.YtlmjidandjemjaaGreatDoor.Hp Go.Proofs.YtlmjidandjemjaaGreatDoor.Undo
set_option linter.unusedVariables false
attribute [local go_sem] Oper.semAt_some

theorem appStr {w : World} {H : Hp} {ops : Array Oper} {rest : List Oper} {o : Oper} {a : Act} {Q : Exit → Act → World → Prop} (hgd : o.guard = none) (s x : Operand)
    (ho : o.op = .call { callee := .builtin .append, args := #[s, x], argTypes := #[22, 22] })
    (p : Option Addr) (n cap : Nat) (xs : List Value) (hp : a.eval s = .slice p n cap) (b : Nat) (hvx : a.eval x = .slice (some ⟨b, 0, none⟩) 1 1) (h : Sat w (arr 9 1 p n cap xs * H)) (v : Value) (hb : w.heap[b]? = some (.cells #[v] 9 (0, 0))) (h0 : v.oneCell' = true) (hn : n ≤ 1000000000)
    (hk : ∀ p' cap' w', Sat w' (arr 9 1 p' (n + 1) cap' (xs ++ [v]) * H) → Ran w w' → wpList Tryz.prog ops Q rest (a.put o.dst (.slice p' (n + 1) cap')) w') : wpList Tryz.prog ops Q (o :: rest) a w := by
  obtain ⟨i0, hi, hz0, hz1, hz2⟩ := info_parts infoStr
  refine wpList_append_arr hgd s x _ _ ho 9 i0 _ 1 16 Tryz.underlying22 hi hz0 hz1 hz2 rfl p n cap xs hp h _ hvx 1 [v] (Src.ofSlice w Tryz.underlying22 ⟨b, 0, none⟩ 1 1 [v] (by rw [hz1]; rfl) ?_ (by simp [h0])) (by omega) (by unfold maxLen; omega) (fun p' cap' w' h1 h2 _ => hk p' cap' w' h1 h2)
  intro j u hj
  rw [Addr.add_lit, Nat.zero_add, cell_at hb, ← hj]
  simp
abbrev eqS : ByteArray := ⟨#[61]⟩
/-- What is exported, of the names that are given. -/
def envL (s : Pst) : List ByteArray → List ByteArray
  | [] => []
  | k :: ks => if ((s.var k).exp && (s.var k).set) = true then ((k ++ eqS) ++ (s.var k).val) :: envL s ks else envL s ks
theorem envL_len (s : Pst) (ks : List ByteArray) : (envL s ks).length ≤ ks.length := by
  induction ks with
  | nil => exact Nat.le_refl _
  | cons k ks ih =>
    unfold envL
    by_cases h : ((s.var k).exp && (s.var k).set) = true
    · rw [if_pos h]; simp; exact ih
    · rw [if_neg h]; simp; omega
theorem envL_snoc (s : Pst) (ks : List ByteArray) (k : ByteArray) : envL s (ks ++ [k]) = envL s ks ++ envL s [k] := by
  induction ks with
  | nil => rfl
  | cons x ks ih =>
    show envL s (x :: (ks ++ [k])) = _
    unfold envL
    by_cases h : ((s.var x).exp && (s.var x).set) = true
    · rw [if_pos h, if_pos h, ih]; rfl
    · rw [if_neg h, if_neg h, ih]; rfl
/-- Variables that are not too great. -/
def VOk (s : Pst) : Prop := ∀ k, (s.V k).isSome = true → k.size ≤ 1000000 ∧ (s.var k).val.size ≤ 1000000
def EnvSays (K : Ctx) (n : Now) (R : Hp) (e : Ending) (w' : World) : Prop :=
  ∃ p cap ks, e = .returned (.slice p (envL n.s ks).length cap) ∧ KeysOf n.s.V ks ∧ SAt K w' n (arr 9 1 p (envL n.s ks).length cap ((envL n.s ks).map sv) * R)
def EnRel (K : Ctx) (n : Now) (R : Hp) (ks : List ByteArray) (q : Option Addr) (qc : Nat) (w : World) (g : Nat) (v3 v5 v6 v10 : Value) (wr : World) : Prop :=
  ∃ (i : Nat) (p : Option Addr) (cap : Nat), v10 = .int .i64 (i : Int) ∧ i + g = ks.length ∧ v3 = .slice p (envL n.s (ks.take i)).length cap ∧
    SAt K wr n (arr 9 1 p (envL n.s (ks.take i)).length cap ((envL n.s (ks.take i)).map sv) * (arr 9 1 q ks.length qc (ks.map sv) * R)) ∧ Ran w wr
set_option maxRecDepth 100000 in
set_option maxHeartbeats 8000000 in
theorem Environ_calls (K : Ctx) (n : Now) (w : World) (R : Hp) (hN : n.N ≤ 1000000) (hV : VOk n.s) (h : SAt K w n R) :
    Calls Tryz.prog 35 #[pp K.sb] w fun e w' => EnvSays K n R e w' ∧ Ran w w' := by
  have HNm := Lib.hid (Names_calls K n w R hN h)
  have HV := Lib.hid hV
  clear h hV hN
  go_enter Tryz.func35, Tryz.ntmps35
  go_wp2_with fail
  refine HNm.out.mono ?_
  rintro e w1 ⟨⟨q, qc, ks, rfl, hk, hkl6, HS⟩, hB⟩
  have Hk := Lib.hid hk
  have hkl : ks.length ≤ 9223372036854775807 := by
    have := HS.rest.arr_len.2
    unfold maxLen at this
    omega
  have hklI : (ks.length : Int) ≤ 9223372036854775807 := by omega
  have Hk6 := Lib.hid hkl6
  have HS0 := Lib.hid HS
  have R1 := Lib.hid (hB.mono (Nat.zero_le _) : Ran w w1)
  clear hk HS hB HNm hkl hkl6
  go_wp2_with fail
  go_loopg [3, 5, 6, 10] (ks.length) (EnRel K n R ks q qc w)
  case atStart =>
    refine ⟨0, none, 0, rfl, by omega, rfl, ?_, R1.out⟩
    obtain ⟨X, h1, h2⟩ := HS0.out.frame
    exact h2 _ _ ((h1.nil_arr 9 1).perm (by show arr 9 1 none 0 0 [] * _ = X * (arr 9 1 none 0 0 [] * _); ac_rfl))
  case round =>
    obtain ⟨i, p, cap, rfl, hg, rfl, HSi, HR⟩ := hrel
    clear HS0 R1
    by_cases hlt : i < ks.length
    · have hltI : (i : Int) < ks.length := by omega
      have hi0 : (0 : Int) ≤ i := by omega
      obtain ⟨x, hx⟩ : ∃ x, x = ks[i] := ⟨_, rfl⟩
      have htk : ks.take (i + 1) = ks.take i ++ [x] := by rw [hx]; exact List.take_succ_eq_append_getElem hlt
      have hks := (Hk.out.2 x).1 (by rw [hx]; exact List.getElem_mem hlt)
      obtain ⟨hxs, hvs⟩ := HV.out x hks
      obtain ⟨qb, qo, hq⟩ := (HSi.rest.right).arr_addr (by have := HSi.rest.right.arr_len; omega)
      subst hq
      have hci : wr.cell? ⟨qb, qo + i, none⟩ = some (.string x) := by
        rw [HSi.rest.right.arr_cell i (by rw [List.length_map]; exact hlt), List.getElem_map, hx]
      have HVr := Lib.hid (Var_calls K n x wr _ (by unfold maxLen; omega) HSi)
      obtain ⟨v, hv⟩ : ∃ v, v = n.s.var x := ⟨_, rfl⟩
      rw [← hv] at HVr hvs
      have hel : envL n.s [x] = if (v.exp && v.set) = true then [(x ++ eqS) ++ v.val] else [] := by rw [hv]; rfl
      have hll := envL_len n.s (ks.take i)
      rw [List.length_take] at hll
      have Hli : Hid (Sat wr (arr 9 1 p (envL n.s (ks.take i)).length cap ((envL n.s (ks.take i)).map sv) * (arr 9 1 (some ⟨qb, qo, none⟩) ks.length qc (ks.map sv) * R))) := Lib.hid HSi.rest
      obtain ⟨l, hl⟩ : ∃ l, l = envL n.s (ks.take i) := ⟨_, rfl⟩
      have htl : envL n.s (ks.take (i + 1)) = l ++ (if (v.exp && v.set) = true then [(x ++ eqS) ++ v.val] else []) := by rw [htk, envL_snoc, hel, hl]
      rw [← hl] at HSi hll ⊢
      have HT := Lib.hid htl
      have HRi := Lib.hid HR
      have hlen : l.length ≤ 1000000000 := by have := Hk6.out; omega
      have hadd1 : ∀ W : World, (Op.stringOp .add x ⟨#[61]⟩).run Tryz.prog W = .ok (.string (x ++ eqS)) W := fun W => run_string_add_sum (P := Tryz.prog) W x eqS (by show x.size + 1 ≤ _; omega)
      have hadd2 : ∀ W : World, (Op.stringOp .add (x ++ eqS) v.val).run Tryz.prog W = .ok (.string (x ++ eqS ++ v.val)) W := fun W => run_string_add_sum (P := Tryz.prog) W (x ++ eqS) v.val (by rw [ByteArray.size_append]; show x.size + 1 + _ ≤ _; omega)
      have HSi0 := Lib.hid HSi
      clear hx htk hks hv hel hl htl HSi HR Hli hll
      generalize hy : x ++ eqS = y at hadd1 hadd2 HT
      generalize hz : y ++ v.val = z at hadd2 HT
      clear hy hz
      cases hvx : v.exp with
      | false =>
        rw [hvx] at HVr
        have hT := HT.out
        rw [hvx, Bool.false_and, if_neg (by decide), List.append_nil] at hT
        have HT := Lib.hid hT
        clear hvx hT hadd1 hadd2
        go_wp2_with fail
        refine HVr.out.mono ?_
        rintro e w2 ⟨rfl, hB2⟩
        have HS2 := Lib.hid ((HSi0.out.below hB2).alloc (VM.boxO ⟨v.val, v.set, false, v.fix⟩)).right
        have R2 := Lib.hid (Below.trans HRi.out (Ran.new (hB2.mono (Nat.zero_le _)) (VM.boxO ⟨v.val, v.set, false, v.fix⟩)))
        clear hB2 hci HVr
        go_wp2_with fail
        go_roundg (gk - 1)
        case rel => exact ⟨i + 1, p, cap, by simp, by omega, by rw [HT.out], by rw [HT.out]; exact HS2.out, R2.out⟩
        case measure => omega
      | true =>
        rw [hvx] at HVr
        cases hvt : v.set with
        | false =>
          rw [hvt] at HVr
          have hT := HT.out
          rw [hvx, hvt, Bool.and_false, if_neg (by decide), List.append_nil] at hT
          have HT := Lib.hid hT
          clear hvx hvt hT hadd1 hadd2
          go_wp2_with fail
          refine HVr.out.mono ?_
          rintro e w2 ⟨rfl, hB2⟩
          have HS2 := Lib.hid ((HSi0.out.below hB2).alloc (VM.boxO ⟨v.val, false, true, v.fix⟩)).right
          have R2 := Lib.hid (Below.trans HRi.out (Ran.new (hB2.mono (Nat.zero_le _)) (VM.boxO ⟨v.val, false, true, v.fix⟩)))
          clear hB2 hci HVr
          go_wp2_with fail
          go_roundg (gk - 1)
          case rel => exact ⟨i + 1, p, cap, by simp, by omega, by rw [HT.out], by rw [HT.out]; exact HS2.out, R2.out⟩
          case measure => omega
        | true =>
          rw [hvt] at HVr
          have hT := HT.out
          rw [hvx, hvt, Bool.and_true, if_pos rfl] at hT
          have HT := Lib.hid hT
          clear hvx hvt hT
          go_wp2_with fail
          refine HVr.out.mono ?_
          rintro e w2 ⟨rfl, hB2⟩
          have HS2 := ((HSi0.out.below hB2).alloc (VM.boxO ⟨v.val, true, true, v.fix⟩)).right
          have R2 := Lib.hid (Below.trans HRi.out (Ran.new (hB2.mono (Nat.zero_le _)) (VM.boxO ⟨v.val, true, true, v.fix⟩)))
          obtain ⟨X, hX1, hX2⟩ := (HS2.old (.cells #[.string z] 9 (0, 0))).frame
          have HXA := hX1.perm (show _ = arr 9 1 p l.length cap (l.map sv) * (X * (arr 9 1 (some ⟨qb, qo, none⟩) ks.length qc (ks.map sv) * R)) by ac_rfl)
          have HX2 := Lib.hid hX2
          clear hB2 hci HVr hX1 hX2 HS2
          go_wp2_with (at_builtin; go_loud (refine appStr rfl _ _ rfl p l.length cap _ rfl _ rfl HXA _ (blk_new (World.size_alloc _ _)) rfl hlen ?_; intro p' cap' w6 HS7 HR7; clear HXA))
          have HS8 := Lib.hid (HX2.out w6 (arr 9 1 p' (l.length + 1) cap' (l.map sv ++ [sv z]) * (arr 9 1 (some ⟨qb, qo, none⟩) ks.length qc (ks.map sv) * R)) (HS7.perm (by ac_rfl)))
          have R8 := Lib.hid (Below.trans (Ran.new R2.out _) HR7)
          clear HS7 HR7 HX2 R2
          go_wp2_with fail
          go_roundg (gk - 1)
          case rel => exact ⟨i + 1, p', cap', by simp, by omega, by rw [HT.out, List.length_append]; rfl, by rw [HT.out, List.length_append, List.map_append]; exact HS8.out, R8.out⟩
          case measure => omega
    · have hge : i = ks.length := by omega
      subst hge
      rw [List.take_length] at HSi ⊢
      have HS9 := Lib.hid HSi
      have HR9 := Lib.hid HR
      clear HSi HR
      go_wp2_with fail
      go_ret
      refine ⟨⟨p, cap, ks, rfl, Hk.out, ?_⟩, HR9.out⟩
      obtain ⟨X, hX1, hX2⟩ := HS9.out.frame
      exact hX2 _ _ (hX1.perm (show _ = arr 9 1 q ks.length qc (ks.map sv) * (X * (arr 9 1 p (envL n.s ks).length cap ((envL n.s ks).map sv) * R)) by ac_rfl)).right
end Go.Proofs.YtlmjidandjemjaaGreatDoor.State

namespace Go.Proofs.YtlmjidandjemjaaGreatDoor.State
open Go.RowKit Go.Proofs.YtlmjidandjemjaaGreatDoor Go.Proofs.YtlmjidandjemjaaGreatDoor.Hp Go.Proofs.YtlmjidandjemjaaGreatDoor.Undo
set_option linter.unusedVariables false
attribute [local go_sem] Oper.semAt_some

def EnterSays (K : Ctx) (n : Now) (R : Hp) (e : Ending) (w' : World) : Prop :=
  ∃ ks, KeysOf n.s.T ks ∧ e = .returned (.int .i64 (Now.enterL K.most ks n).1) ∧ SAt K w' (Now.enterL K.most ks n).2 R
def EtRel (K : Ctx) (n : Now) (R : Hp) (ks : List ByteArray) (q : Option Addr) (qc : Nat) (w : World) (g : Nat) (v4 v5 v6 v7 v16 : Value) (wr : World) : Prop :=
  ∃ (i : Nat) (m : Now), v16 = .int .i64 (i : Int) ∧ i + g = ks.length ∧ Now.enterL K.most (ks.drop i) m = Now.enterL K.most ks n ∧ m.N ≤ n.N + 2 * i ∧ m.ms = n.ms ∧ SAt K wr m (arr 9 1 q ks.length qc (ks.map sv) * R) ∧ Ran w wr
theorem enterL_cons (most : Int) (k : ByteArray) (ks : List ByteArray) (m : Now) : Now.enterL most (k :: ks) m = if ((m.s.T k).getD ⟨#[]⟩).size = 0 then Now.enterL most ks m else if (m.delT most k).1 = 0 then Now.enterL most ks (m.delT most k).2 else m.delT most k := rfl
set_option maxRecDepth 100000 in
set_option maxHeartbeats 8000000 in
theorem Enter_calls (K : Ctx) (n : Now) (w : World) (R : Hp) (hN : n.N ≤ 900000) (hms : n.ms.length ≤ 1000000) (hT : ∀ ks, KeysOf n.s.T ks → ks.length ≤ 1000 ∧ ∀ k ∈ ks, k.size ≤ 1000000) (h : SAt K w n R) :
    Calls Tryz.prog 38 #[pp K.sb] w fun e w' => EnterSays K n R e w' ∧ Ran w w' := by
  obtain ⟨c0, c1, c2, c3, c4, c5, c6, cz⟩ := h.cells
  have HK := Lib.hid (keysT K n w R (by omega) h)
  have HT := Lib.hid hT
  have HN := Lib.hid (And.intro hN hms)
  clear h hT hN hms
  go_enter Tryz.func38, Tryz.ntmps38
  go_wp2_with fail
  refine HK.out.mono ?_
  rintro e w1 ⟨⟨q, qc, ks, rfl, hk, hkl, HS⟩, hB⟩
  have Hk := Lib.hid hk
  obtain ⟨hkl3, hks⟩ := HT.out ks hk
  have Hks := Lib.hid (And.intro hkl3 hks)
  have HS0 := Lib.hid HS
  have R1 := Lib.hid (hB.mono (Nat.zero_le _) : Ran w w1)
  have hklI : (ks.length : Int) ≤ 1000000 := by omega
  clear hk hkl HS hB HK HT hkl3 hks c0 c1 c2 c3 c4 c5 c6 cz
  go_wp2_with fail
  go_loopg [4, 5, 6, 7, 16] (ks.length) (EtRel K n R ks q qc w)
  case atStart => exact ⟨0, n, rfl, by omega, by rw [List.drop_zero], by omega, rfl, HS0.out, R1.out⟩
  case round =>
    obtain ⟨i, m, rfl, hg, hE, hmN, hmm, HSi, HR⟩ := hrel
    clear HS0 R1
    obtain ⟨c0, c1, c2, c3, c4, c5, c6, cz⟩ := HSi.cells
    by_cases hlt : i < ks.length
    · have hltI : (i : Int) < ks.length := by omega
      have hi0 : (0 : Int) ≤ i := by omega
      obtain ⟨x, hx⟩ : ∃ x, x = ks[i] := ⟨_, rfl⟩
      have hxs : x.size ≤ maxLen := by have := Hks.out.2 x (by rw [hx]; exact List.getElem_mem hlt); unfold maxLen; omega
      obtain ⟨qb, qo, hq⟩ := (HSi.rest).arr_addr (by have := HSi.rest.arr_len; omega)
      subst hq
      have hci : wr.cell? ⟨qb, qo + i, none⟩ = some (.string x) := by
        rw [HSi.rest.arr_cell i (by rw [List.length_map]; exact hlt), List.getElem_map, hx]
      have hE2 := hE
      rw [List.drop_eq_getElem_cons hlt, ← hx, enterL_cons] at hE2
      have HTr := Lib.hid (Trap_calls K m x wr _ hxs HSi)
      obtain ⟨tv, htv⟩ : ∃ tv, tv = (m.s.T x).getD ⟨#[]⟩ := ⟨_, rfl⟩
      obtain ⟨tb, htb⟩ : ∃ tb, tb = (m.s.T x).isSome := ⟨_, rfl⟩
      rw [← htv, ← htb] at HTr
      rw [← htv] at hE2
      have hem := tol tv []
      have hem2 : (tv.toList == ([] : List UInt8)) = decide (tv.size = 0) := beq_nil tv
      have HSi0 := Lib.hid HSi
      have HRi := Lib.hid HR
      have hmN2 : m.N ≤ 1000000 := by have := HN.out.1; have := Hks.out.1; omega
      have hmm2 : m.ms.length ≤ 1000000 := by rw [hmm]; exact HN.out.2
      by_cases hz : tv.size = 0
      · rw [if_pos hz] at hE2
        rw [decide_eq_true hz] at hem2
        have HE := Lib.hid hE2
        have Hm := Lib.hid (And.intro hmN hmm)
        clear hx htv htb hz hem hE2 hE HSi HR hmN hmm hmN2 hmm2 hxs
        go_wp2_with fail
        refine HTr.out.mono ?_
        rintro e w2 ⟨rfl, hB2⟩
        have HS2 := Lib.hid (HSi0.out.below hB2)
        have R2 := Lib.hid (Below.trans HRi.out (hB2.mono (Nat.zero_le _)))
        clear hB2 hci HTr c0 c1 c2 c3 c4 c5 c6 cz
        go_wp2_with fail
        go_roundg (gk - 1)
        case rel => exact ⟨i + 1, m, by simp, by omega, HE.out, by have := Hm.out.1; omega, Hm.out.2, HS2.out, R2.out⟩
        case measure => omega
      · rw [if_neg hz] at hE2
        rw [decide_eq_false hz] at hem2
        have hsome : (m.s.T x).isSome = true := by
          cases hc : m.s.T x with
          | none => rw [hc] at htv; exact absurd (by rw [htv]; rfl) hz
          | some _ => rfl
        have hd : m.delT K.most x = m.put K.most { m.s with T := delM m.s.T x } := by
          unfold Now.delT
          rw [if_neg (by rw [hsome]; decide)]
        rw [hd] at hE2
        have Hsm := Lib.hid hsome
        have HE := Lib.hid hE2
        have Hm := Lib.hid (And.intro hmN hmm)
        have Hfit := Lib.hid (And.intro hmN2 (And.intro hmm2 hxs))
        have hput : (m.put K.most { m.s with T := delM m.s.T x }).2.N = m.N + 2 ∧ (m.put K.most { m.s with T := delM m.s.T x }).2.ms = m.ms := ⟨rfl, rfl⟩
        have Hput := Lib.hid hput
        clear hx htv htb hz hem hE2 hE HSi HR hmN hmm hmN2 hmm2 hxs hsome hd hput
        go_wp2_with fail
        refine HTr.out.mono ?_
        rintro e w2 ⟨rfl, hB2⟩
        have HS2 := HSi0.out.below hB2
        have R2 := Lib.hid (Below.trans HRi.out (hB2.mono (Nat.zero_le _)))
        clear c0 c1 c2 c3 c4 c5 c6 cz
        obtain ⟨c0, c1, c2, c3, c4, c5, c6, cz⟩ := HS2.cells
        have HD := Lib.hid (ndelT K w2 m _ x Hfit.out.2.2 Hfit.out.1 Hfit.out.2.1 Hsm.out HS2)
        clear hB2 hci HTr HS2
        go_wp2_with fail
        refine HD.out.mono ?_
        rintro e w3 ⟨⟨rfl, HS3⟩, R3⟩
        have R3 := Lib.hid (Below.trans R2.out R3)
        have HS3 := Lib.hid HS3
        obtain ⟨en, hen⟩ : ∃ en, en = (m.put K.most { m.s with T := delM m.s.T x }).1 := ⟨_, rfl⟩
        have hcase : en = 0 ∨ en = 43 := by rw [hen]; exact tE_cases _ _ _
        have hE3 := HE.out
        rw [← hen] at hE3 ⊢
        rcases hcase with rfl | rfl
        · rw [if_pos rfl] at hE3
          have HE3 := Lib.hid hE3
          clear hE3 HE hen HD
          go_wp2_with fail
          go_roundg (gk - 1)
          case rel => exact ⟨i + 1, _, by simp, by omega, HE3.out, by rw [Hput.out.1]; have := Hm.out.1; omega, by rw [Hput.out.2]; exact Hm.out.2, HS3.out, R3.out⟩
          case measure => omega
        · rw [if_neg (by decide)] at hE3
          have HE3 := Lib.hid hE3
          have Hen := Lib.hid hen
          clear hE3 HE hen HD
          go_wp2_with fail
          go_ret
          refine ⟨⟨ks, Hk.out, by rw [← HE3.out, ← Hen.out]; rfl, ?_⟩, R3.out⟩
          rw [← HE3.out]
          exact HS3.out.right
    · have hge : i = ks.length := by omega
      subst hge
      rw [List.drop_length] at hE
      have HE := Lib.hid hE
      have HS9 := Lib.hid HSi
      have HR9 := Lib.hid HR
      clear HSi HR hE
      go_wp2_with fail
      go_ret
      refine ⟨⟨ks, Hk.out, by rw [← HE.out]; rfl, ?_⟩, HR9.out⟩
      rw [← HE.out]
      exact HS9.out.right
/-- A state in which nothing is known. -/
def n0 : Now := ⟨[], [], 0, ⟨fun _ => none, fun _ => none, fun _ => none, fun _ => none, ⟨#[]⟩, [], 1, 0⟩, 0⟩
def s0 : Sta := ⟨fun _ => none, fun _ => none, fun _ => none, fun _ => none, ⟨#[]⟩, ⟨none, 0, 0, 1, 0, []⟩⟩
set_option maxRecDepth 100000 in
set_option maxHeartbeats 8000000 in
theorem New_calls (lb : Nat) (most nest : Int) (w : World) (R : Hp) (h : LogAt w lb most nest [] [] R) :
    Calls Tryz.prog 21 #[.pointer (some ⟨lb, 0, none⟩)] w fun e w' => (∃ K : Ctx, K.lb = lb ∧ K.most = most ∧ K.nest = nest ∧ e = .returned (.tuple #[pp K.sb, .int .i64 0]) ∧ SAt K w' n0 R) ∧ Ran w w' := by
  obtain ⟨np, nc, qp, qc, HS⟩ := h
  have H0 := Lib.hid HS
  clear HS
  go_enter Tryz.func21, Tryz.ntmps21
  go_wp2_with fail
  refine (VM.newmap_calls (some ⟨lb, 0, none⟩) w _ H0.out).mono ?_
  rintro e w1 ⟨vb, rfl, H1, R1⟩
  have H1 := Lib.hid H1
  have R1 := Lib.hid R1
  go_wp2_with fail
  refine (NM.newmap_calls (some ⟨lb, 0, none⟩) w1 _ H1.out).mono ?_
  rintro e w2 ⟨fb, rfl, H2, R2⟩
  have H2 := Lib.hid H2
  have R2 := Lib.hid (Below.trans R1.out R2)
  go_wp2_with fail
  refine (SM.newmap_calls (some ⟨lb, 0, none⟩) w2 _ H2.out).mono ?_
  rintro e w3 ⟨ab, rfl, H3, R3⟩
  have H3 := Lib.hid H3
  have R3 := Lib.hid (Below.trans R2.out R3)
  go_wp2_with fail
  refine (SM.newmap_calls (some ⟨lb, 0, none⟩) w3 _ H3.out).mono ?_
  rintro e w4 ⟨tb, rfl, H4, R4⟩
  have H4 := Lib.hid H4
  have R4 := Lib.hid (Below.trans R3.out R4)
  go_wp2_with fail
  refine (OC.newcell_calls (some ⟨lb, 0, none⟩) ⟨#[]⟩ w4 _ H4.out).mono ?_
  rintro e w5 ⟨ob, rfl, H5, R5⟩
  have H5 := Lib.hid H5
  have R5 := Lib.hid (Below.trans R4.out R5)
  go_wp2_with fail
  refine (GC.newcell_calls (some ⟨lb, 0, none⟩) ⟨none, 0, 0, 1, 0, []⟩ w5 _ H5.out).mono ?_
  rintro e w6 ⟨gb, rfl, H6, R6⟩
  have H6 := Lib.hid H6
  have R6 := Lib.hid (Below.trans R5.out R6)
  go_wp2_with fail
  go_ret2
  have H7 := H6.out.alloc (stO ⟨vb, fb, ab, tb, ob, gb⟩ 0)
  refine ⟨⟨⟨lb, w6.heap.size, ⟨vb, fb, ab, tb, ob, gb⟩, most, nest⟩, rfl, rfl, rfl, rfl, ?_⟩, Ran.new R6.out _⟩
  refine ⟨[], s0, [], rfl, rfl, fun x hx => by obtain rfl := List.mem_singleton.1 hx; exact ⟨rfl, Nat.le_refl _, .inl rfl⟩, [], 0, rfl, chain_nil _, by simp, Nat.le_refl _, np, nc, qp, qc, ?_⟩
  have he : all row1 [] = emp := rfl
  have he2 : all (Nt.own ⟨vb, fb, ab, tb, ob, gb⟩) [] = emp := rfl
  refine H7.perm ?_
  show _ = pts lb (logO most nest np 0 nc qp 0 qc) * (notes np 0 nc [] * (marksA qp qc [] * (all (Nt.own ⟨vb, fb, ab, tb, ob, gb⟩) [] * (lies (some ⟨lb, 0, none⟩) ⟨vb, fb, ab, tb, ob, gb⟩ 0 s0 * (pts w6.heap.size (stO ⟨vb, fb, ab, tb, ob, gb⟩ 0) * (all row1 [] * R))))))
  rw [he, he2, emp_sep, emp_sep]
  unfold lies s0
  dsimp only
  ac_rfl
def BegunSays (most : Int) (R : Hp) (e : Ending) (w' : World) : Prop := ∃ K : Ctx, K.most = most ∧ K.nest = 20 ∧ e = .returned (.tuple #[pp K.sb, pp K.lb, .bool true]) ∧ SAt K w' n0 R
set_option maxRecDepth 100000 in
set_option maxHeartbeats 8000000 in
theorem begun_calls (most : Int) (h1 : 0 ≤ most) (h2 : most ≤ 1048576) (w : World) (R : Hp) (h : Sat w R) :
    Calls Tryz.prog 8 #[.int .i64 most] w fun e w' => BegunSays most R e w' ∧ Ran w w' := by
  have HN := Lib.hid (new_calls most 20 h1 h2 (by decide) (by decide) w R h)
  clear h
  go_enter Tryz.func8, Tryz.ntmps8
  go_wp2_with fail
  refine HN.out.mono ?_
  rintro e w1 ⟨rfl, HL, R1⟩
  obtain ⟨lb, hlb⟩ : ∃ lb, lb = w.heap.size := ⟨_, rfl⟩
  rw [← hlb] at HL ⊢
  have HW := Lib.hid (New_calls lb most 20 w1 R HL)
  have R1 := Lib.hid R1
  clear HL hlb HN
  go_wp2_with fail
  refine HW.out.mono ?_
  rintro e w2 ⟨⟨K, rfl, rfl, hnest, rfl, HS⟩, R2⟩
  have HS := Lib.hid HS
  have R2 := Lib.hid (Below.trans R1.out R2)
  clear HW
  go_wp2_with fail
  go_ret3
  exact ⟨⟨K, rfl, hnest, rfl, HS.out⟩, R2.out⟩
end Go.Proofs.YtlmjidandjemjaaGreatDoor.State

namespace Go.Proofs.YtlmjidandjemjaaGreatDoor.State
open Go.RowKit Go.Sort Go.Proofs.YtlmjidandjemjaaGreatDoor Go.Proofs.YtlmjidandjemjaaGreatDoor.Hp Go.Proofs.YtlmjidandjemjaaGreatDoor.Undo
set_option linter.unusedVariables false
attribute [local go_sem] Oper.semAt_some

abbrev u8V (x : Int) : Value := .int .u8 x
def intOfV : Value → Int | .int _ q => q | _ => 0
section
variable {α : Type} [Inhabited α] (lt : α → α → Bool)
theorem inner_go (a j : Nat) (d : Array α) (hj : a < j) (hl : lt d[j]! d[j - 1]! = true) : insInner lt a j d = insInner lt a (j - 1) (swp d j (j - 1)) := by
  obtain ⟨k, rfl⟩ : ∃ k, j = k + 1 := ⟨j - 1, by omega⟩
  rw [insInner]
  simp only [Nat.add_sub_cancel] at hl ⊢
  simp [hj, hl]
theorem inner_stop (a j : Nat) (d : Array α) (h : j ≤ a ∨ lt d[j]! d[j - 1]! = false) : insInner lt a j d = d := by
  cases j with
  | zero => rw [insInner]
  | succ k =>
    rw [insInner]
    simp only [Nat.add_sub_cancel] at h
    rcases h with h | h
    · simp [show ¬ k + 1 > a by omega]
    · simp [h]
theorem outer_go (a b i : Nat) (d : Array α) (h : i < b) : insOuter lt a b i d = insOuter lt a b (i + 1) (insInner lt a i d) := by rw [insOuter, if_pos h]
theorem outer_stop (a b i : Nat) (d : Array α) (h : ¬ i < b) : insOuter lt a b i d = d := by rw [insOuter, if_neg h]
end
theorem row_drewN (w : World) (m q blk off : Nat) (d : Array Int) : (putRow u8V (Sort.ahead w m) blk off d).drewN q = putRow u8V (Sort.ahead w (m + q)) blk off d := by
  show Sort.ahead (putRow u8V (Sort.ahead w m) blk off d) q = _
  rw [putRow_ahead u8V w m, ahead_ahead, ← putRow_ahead]
theorem row_swap (w : World) (m q blk off : Nat) (d : Array Int) (j k : Nat) (hj : j < d.size) (hk : k < d.size) :
    (((putRow u8V (Sort.ahead w m) blk off d).drewN q).setCell ⟨blk, off + j, none⟩ (u8V d[k]!)).setCell ⟨blk, off + k, none⟩ (u8V d[j]!) = putRow u8V (Sort.ahead w (m + q)) blk off (swp d j k) := by
  rw [row_drewN]
  exact putRow_swp u8V _ blk off d j k hj hk
theorem isNaN_calls (x : Int) (w : World) : Calls Tryz.prog 175 #[.int .u8 x] w fun e w' => e = .returned (.bool false) ∧ w' = w := by
  go_enter Tryz.func175, Tryz.ntmps175
  go_wp2
  go_ret
  exact ⟨by simp, rfl⟩
theorem less_calls (x y : Int) (w : World) : Calls Tryz.prog 152 #[.int .u8 x, .int .u8 y] w fun e w' => e = .returned (.bool (Sort.ltInt x y)) ∧ w' = w := by
  go_enter Tryz.func152, Tryz.ntmps152
  go_wp2_with (go_at_call 175; refine (isNaN_calls _ _).mono ?_; rintro e w' ⟨rfl, rfl⟩)
  go_ret
  exact ⟨rfl, rfl⟩
set_option maxRecDepth 100000 in
set_option maxHeartbeats 8000000 in
theorem insert_calls (blk off cap a b : Nat) (d : Array Int) (w : World) (hH : Holds u8V w blk off d) (hab : a ≤ b) (hb : b ≤ d.size) (hsz : d.size < 4611686018427387904) :
    Calls Tryz.prog 146 #[.slice (some ⟨blk, off, none⟩) d.size cap, .int .i64 a, .int .i64 b] w fun e w' =>
      e = .returned (.tuple #[]) ∧ ∃ n, w' = putRow u8V (Sort.ahead w n) blk off (Sort.insertionSort ltInt d a b) := by
  go_enter Tryz.func146, Tryz.ntmps146
  go_wp2
  go_loopw [6] (fun vi wr => ∃ (i n : Nat) (dk : Array Int), vi = .int .i64 i ∧ a < i ∧ i ≤ b + 1 ∧ dk.size = d.size ∧ wr = putRow u8V (Sort.ahead w n) blk off dk ∧
      insOuter ltInt a b i dk = insOuter ltInt a b (a + 1) d) (fun vi _ => b + 1 - (intOfV vi).toNat)
  case atStart => exact ⟨a + 1, 0, d, by go_num, by omega, by omega, rfl, (putRow_self _ _ _ _ _ hH).symm, rfl⟩
  case round =>
    obtain ⟨i, n, dk, rfl, hai, hib, hsk, hwr, hO⟩ := hrel
    have HO : Hid (insOuter ltInt a b i dk = insOuter ltInt a b (a + 1) d) := hO
    clear hO
    go_wp2
    · go_loopw [7] (fun vj wr2 => ∃ (j m : Nat) (dj : Array Int), vj = .int .i64 j ∧ a ≤ j ∧ j ≤ i ∧ dj.size = d.size ∧ wr2 = putRow u8V (Sort.ahead w m) blk off dj ∧
          insInner ltInt a j dj = insInner ltInt a i dk) (fun vj _ => (intOfV vj).toNat)
      case atStart => exact ⟨i, n, dk, rfl, by omega, Nat.le_refl _, hsk, rfl, rfl⟩
      case round =>
        obtain ⟨j, m, dj, rfl, haj, hji, hsj, hw2, hI⟩ := hrel
        have hlt : i < b := by assumption
        obtain ⟨G, hG⟩ : ∃ G : Nat → Int, ∀ t, G t = dj[t]! := ⟨fun t => dj[t]!, fun _ => rfl⟩
        have hcw : ∀ t, t < d.size → wr.cell? ⟨blk, off + t, none⟩ = some (.int .u8 (G t)) := fun t ht => by
          rw [hw2, hG]; exact cell?_putRow _ _ _ _ d dj (holds_ahead _ _ _ _ _ _ hH) hsj t (by omega)
        have hfw : ∀ t, t < d.size → wr.frozen? ⟨blk, off + t, none⟩ = false := fun t ht => by
          rw [hw2, frozen?_putRow]; exact ((holds_ahead _ _ m _ _ _ hH) t ht).2
        have HW : Hid (wr = putRow u8V (Sort.ahead w m) blk off dj) := hw2
        have HG : Hid (∀ t, G t = dj[t]!) := hG
        have HI : Hid (insInner ltInt a j dj = insInner ltInt a i dk) := hI
        clear hw2 hG hI hH
        have out : (j ≤ a ∨ ltInt dj[j]! dj[j - 1]! = false) → ∀ q, ∃ i' n' dk', Value.int .i64 ((i : Int) + 1) = .int .i64 (i' : Nat) ∧ a < i' ∧ i' ≤ b + 1 ∧ dk'.size = d.size ∧
            wr.drewN q = putRow u8V (Sort.ahead w n') blk off dk' ∧ insOuter ltInt a b i' dk' = insOuter ltInt a b (a + 1) d := fun hs q =>
          ⟨i + 1, m + q, dj, by go_num, by omega, by omega, hsj, by rw [HW.out]; exact row_drewN _ _ _ _ _ _,
            by rw [← HO.out, outer_go _ _ _ _ _ hlt, ← HI.out, inner_stop _ _ _ _ hs]⟩
        have OUT : Hid _ := out
        clear out
        go_wp2
        by_cases hja : a < j
        · go_quiet (first | (go_at_call 152; refine Calls.quiet_of_same (less_calls _ _ _)))
          go_wp2
          · have hl : ltInt (G j) (G (j - 1)) = true := by assumption
            go_region
            all_goals go_wp2
            go_roundw
            case rel =>
              refine ⟨j - 1, m + (nq + 1), swp dj j (j - 1), by congr 1; omega, by omega, by omega, by rw [size_swp]; exact hsj, ?_, ?_⟩
              · rw [HW.out, HG.out, HG.out]
                exact row_swap w m (nq + 1) blk off dj j (j - 1) (by omega) (by omega)
              · rw [← HI.out, inner_go ltInt a j dj hja (by rw [← HG.out, ← HG.out]; exact hl)]
            case measure => simp [intOfV]; omega
          · have hl : ltInt (G j) (G (j - 1)) = false := by assumption
            go_roundw
            case rel => exact OUT.out (Or.inr (by rw [← HG.out, ← HG.out]; exact hl)) nq
            case measure => simp [intOfV]; omega
        · go_quiet (first | (go_at_call 152; refine Calls.quiet_of_same (less_calls _ _ _)))
          go_wp2
          go_roundw
          case rel => exact OUT.out (Or.inl (by omega)) nq
          case measure => simp [intOfV]; omega
    · have hge : ¬ i < b := by assumption
      go_end0
      exact ⟨rfl, n, by unfold Sort.insertionSort; rw [← HO.out, outer_stop _ _ _ _ _ hge]⟩
set_option maxRecDepth 100000 in
set_option maxHeartbeats 8000000 in
theorem pdq_calls (blk off cap : Nat) (d : Array Int) (w : World) (lim : Int) (hH : Holds u8V w blk off d) (hsz : d.size ≤ 12) :
    Calls Tryz.prog 128 #[.slice (some ⟨blk, off, none⟩) d.size cap, .int .i64 0, .int .i64 (d.size : Int), .int .i64 lim] w fun e w' =>
      e = .returned (.tuple #[]) ∧ ∃ n, w' = putRow u8V (Sort.ahead w n) blk off (Sort.insertionSort ltInt d 0 d.size) := by
  have HI := Lib.hid (insert_calls blk off cap 0 d.size d w hH (Nat.zero_le _) (Nat.le_refl _) (by omega))
  have h0 : (d.size : Int) - 0 ≤ 12 := by omega
  have h1 : (d.size : Int) ≤ 12 := by omega
  have h2 : (0 : Int) ≤ d.size := by omega
  clear hH
  go_enter Tryz.func128, Tryz.ntmps128
  go_wp2_with fail
  go_loopg [1, 2, 3, 8, 9, 10, 11, 12, 13, 14, 15, 16, 17, 18] 1 (fun (g : Nat) (v1 v2 v3 v8 v9 v10 v11 v12 v13 v14 v15 v16 v17 v18 : Value) (wr : World) => v1 = .int .i64 0 ∧ v2 = .int .i64 (d.size : Int) ∧ w = wr)
  case atStart => exact ⟨rfl, rfl, rfl⟩
  case round =>
    obtain ⟨rfl, rfl, rfl⟩ := hrel
    go_wp2_with fail
    refine HI.out.mono ?_
    rintro e w1 ⟨rfl, hw⟩
    have Hw := Lib.hid hw
    clear hw
    go_wp2_with fail
    refine bodyPost_ret (results_none rfl _ _ _) rfl ?_
    exact ⟨rfl, Hw.out⟩
theorem sort_calls (blk off cap : Nat) (d : Array Int) (w : World) (hH : Holds u8V w blk off d) (hsz : d.size ≤ 12) :
    Calls Tryz.prog 96 #[.slice (some ⟨blk, off, none⟩) d.size cap] w fun e w' =>
      e = .returned (.tuple #[]) ∧ ∃ n, w' = putRow u8V (Sort.ahead w n) blk off (Sort.insertionSort ltInt d 0 d.size) := by
  have HP := Lib.hid (fun lim => pdq_calls blk off cap d w lim hH hsz)
  have HL := Lib.hid (Tryz.bits_Len (d.size : Int) w (by omega) (by omega))
  have h1 : (d.size : Int) ≤ 12 := by omega
  clear hH
  go_enter Tryz.func96, Tryz.ntmps96
  go_wp2_with fail
  refine HL.out.mono ?_
  rintro e w1 ⟨rfl, rfl⟩
  go_wp2_with fail
  refine (HP.out _).mono ?_
  rintro e w1 ⟨rfl, hw⟩
  have Hw := Lib.hid hw
  clear hw
  go_wp2_with fail
  go_end0
  exact ⟨rfl, Hw.out⟩
end Go.Proofs.YtlmjidandjemjaaGreatDoor.State

