/- HandlesPlays, part 26 of 31: the texts PrIn PrDa, joined by a program. -/
import Derived.Test.YteienbdbhnikbaaGreatDoorPw22
import Derived.Test.YteienbdbhnikbaaGreatDoorPw25
namespace Go.Proofs.YteienbdbhnikbaaGreatDoor.Pr
open Go.RowKit Go.Maps Go.Proofs.YteienbdbhnikbaaGreatDoor Go.Proofs.YteienbdbhnikbaaGreatDoor.Hp Go.Proofs.YteienbdbhnikbaaGreatDoor.Hd
set_option linter.unusedVariables false

def upS (f : Nat → Sl) (q : Nat) (s : Sl) : Nat → Sl := fun j => if j = q then s else f j
/-- Slots when notes have been undone. -/
def restoS (l : List Nt) (f : Nat → Sl) : Nat → Sl := l.foldr (fun x g => upS g x.q x.was) f
/-- At each open mark: what was noted behind it, and what the slots were. -/
def Hist : List Nat → List Nt → (Nat → Sl) → Prop
  | [], nl, f => nl = [] ∧ ∀ q, q ≤ 17 → (f q).mark = 0
  | m :: rs, nl, f => m ≤ nl.length ∧ (∀ q, q ≤ 17 → (f q).mark ≤ (rs.length : Int) + 1 ∧ ((f q).mark = (rs.length : Int) + 1 → ∃ x ∈ nl.drop m, x.q = q)) ∧ Hist rs (nl.take m) (restoS (nl.drop m) f)
theorem restoS_at : ∀ (l : List Nt) (f g : Nat → Sl) (q : Nat), f q = g q → restoS l f q = restoS l g q
  | [], f, g, q, h => h
  | x :: l, f, g, q, h => by
    show upS (restoS l f) x.q x.was q = upS (restoS l g) x.q x.was q
    unfold upS
    split
    · rfl
    · exact restoS_at l f g q h
theorem restoS_over : ∀ (l : List Nt) (f : Nat → Sl) (q : Nat) (s : Sl), (∃ x ∈ l, x.q = q) → restoS l (upS f q s) = restoS l f
  | [], f, q, s, ⟨x, hx, _⟩ => by cases hx
  | y :: l, f, q, s, ⟨x, hx, he⟩ => by
    show upS (restoS l (upS f q s)) y.q y.was = upS (restoS l f) y.q y.was
    by_cases hl : ∃ x ∈ l, x.q = q
    · rw [restoS_over l f q s hl]
    · have hy : y.q = q := by
        rcases List.mem_cons.1 hx with e | e
        · rw [← e]; exact he
        · exact absurd ⟨x, e, he⟩ hl
      funext j
      unfold upS
      by_cases hj : j = y.q
      · rw [if_pos hj, if_pos hj]
      · rw [if_neg hj, if_neg hj]
        refine restoS_at l _ f j ?_
        show (if j = q then s else f j) = f j
        rw [if_neg (fun e => hj (by rw [e, hy]))]
theorem restoS_snoc (l : List Nt) (x : Nt) (f : Nat → Sl) : restoS (l ++ [x]) f = restoS l (upS f x.q x.was) := by
  unfold restoS
  rw [List.foldr_append]
  rfl
theorem hist_congr : ∀ (rs : List Nat) (nl : List Nt) (f g : Nat → Sl), (∀ q, q ≤ 17 → f q = g q) → Hist rs nl f → Hist rs nl g
  | [], nl, f, g, h, ⟨h1, h2⟩ => ⟨h1, fun q hq => by rw [← h q hq]; exact h2 q hq⟩
  | m :: rs, nl, f, g, h, ⟨h1, h2, h3⟩ => ⟨h1, fun q hq => by rw [← h q hq]; exact h2 q hq, hist_congr rs _ _ _ (fun q hq => restoS_at _ _ _ q (h q hq)) h3⟩
theorem hist_mark : ∀ (rs : List Nat) (nl : List Nt) (f : Nat → Sl), Hist rs nl f → ∀ q, q ≤ 17 → (f q).mark ≤ (rs.length : Int)
  | [], nl, f, ⟨_, h2⟩, q, hq => by rw [h2 q hq]; exact Int.le_refl _
  | m :: rs, nl, f, ⟨_, h2, _⟩, q, hq => by have := (h2 q hq).1; rw [List.length_cons]; omega
theorem hist_le : ∀ (rs : List Nat) (nl : List Nt) (f : Nat → Sl), Hist rs nl f → ∀ m ∈ rs, m ≤ nl.length
  | [], nl, f, _, m, hm => by cases hm
  | k :: rs, nl, f, ⟨h1, _, h3⟩, m, hm => by
    rcases List.mem_cons.1 hm with e | e
    · rw [e]; exact h1
    · have := hist_le rs _ _ h3 m e
      rw [List.length_take] at this
      omega
/-- What is true of a process. -/
structure PInv (most : Int) (p : Pc) (nl : List Nt) (ms : List Nat) : Prop where
  len : p.fds.length = 16
  ok : POk p nl
  few : ms.length ≤ 4
  mst : (nl.length : Int) ≤ most
  top : most ≤ 1000
  hist : Hist ms.reverse nl p.sl
section
variable {most : Int} {p p' : Pc} {nl nl' : List Nt} {ms ms' : List Nat} {er : Int}
theorem put_sl (h16 : p.fds.length = 16) {i : Nat} (hi : i ≤ 17) (s : Sl) (q : Nat) (hq : q ≤ 17) : (p.put i s).sl q = upS p.sl i s q := by
  unfold upS
  have hcas : i < 16 ∨ i = 16 ∨ i = 17 := by omega
  rcases hcas with h | rfl | rfl
  · rw [put_fd h]
    by_cases e : q = i
    · rw [if_pos e, e]
      unfold Pc.sl
      rw [if_pos h]
      show (p.fds.set i s).getD i ⟨0, 0⟩ = s
      rw [List.getD_eq_getElem?_getD, List.getElem?_set_self (by omega)]
      rfl
    · rw [if_neg e]
      unfold Pc.sl
      by_cases h2 : q < 16
      · rw [if_pos h2, if_pos h2]
        show (p.fds.set i s).getD q ⟨0, 0⟩ = p.fds.getD q ⟨0, 0⟩
        rw [List.getD_eq_getElem?_getD, List.getElem?_set_ne (fun h => e h.symm), List.getD_eq_getElem?_getD]
      · rw [if_neg h2, if_neg h2]
        rfl
  · rw [put_dir]
    by_cases e : q = 16
    · rw [if_pos e, e]; rfl
    · rw [if_neg e]
      unfold Pc.sl
      rw [if_neg e, if_neg e]
      rfl
  · rw [put_mask]
    by_cases e : q = 17
    · rw [if_pos e, e]; rfl
    · rw [if_neg e]
      unfold Pc.sl
      by_cases h2 : q < 16
      · rw [if_pos h2, if_pos h2]; rfl
      · rw [if_neg h2, if_neg h2, if_pos (by omega), if_pos (by omega)]; rfl
theorem resto_sl (h16 : p.fds.length = 16) : ∀ (l : List Nt), (∀ x ∈ l, x.q ≤ 17) → ∀ q, q ≤ 17 → (resto l p).sl q = restoS l p.sl q
  | [], _, q, _ => rfl
  | x :: l, h, q, hq => by
    have ih := resto_sl h16 l (fun y hy => h y (List.mem_cons_of_mem _ hy))
    have hl : (resto l p).fds.length = 16 := (resto_same l p).2.2.2.2.2.2.trans h16
    show ((resto l p).put x.q x.was).sl q = upS (restoS l p.sl) x.q x.was q
    rw [put_sl hl (h x List.mem_cons_self) x.was q hq]
    unfold upS
    split
    · rfl
    · exact ih q hq
theorem ok_put (h16 : p.fds.length = 16) (ho : POk p nl) {q : Nat} (hq : q ≤ 17) {s : Sl} (h0 : 0 ≤ s.has) (h1 : s.has ≤ 1000000) (hm : 0 ≤ s.mark) : POk (p.put q s) nl where
  vals j hj := by
    rw [put_sl h16 hq s j hj]
    unfold upS
    split
    · exact ⟨h0, h1, hm⟩
    · exact ho.vals j hj
  nts := ho.nts
  len := ho.len
theorem setR_inv (h : PInv most p nl ms) {q : Nat} {n : Int} (hq : q ≤ 17) (h0 : 0 ≤ n) (h1 : n ≤ 1000000) (hs : SetR most q n p nl ms er p' nl') : PInv most p' nl' ms := by
  have hv := h.ok.vals q hq
  have hmk := hist_mark _ _ _ h.hist q hq
  rw [List.length_reverse] at hmk
  cases hs with
  | now hm =>
    have hme : (p.sl q).mark = (ms.length : Int) := by omega
    refine ⟨(Pc.put_same p q _).2.2.2.2.2.2.trans h.len, ok_put h.len h.ok hq h0 h1 hv.2.2, h.few, h.mst, h.top, ?_⟩
    refine hist_congr _ _ (upS p.sl q ⟨n, (p.sl q).mark⟩) _ (fun j hj => (put_sl h.len hq _ j hj).symm) ?_
    have hh := h.hist
    cases hr : ms.reverse with
    | nil =>
      rw [hr] at hh
      refine ⟨hh.1, fun j hj => ?_⟩
      unfold upS
      split
      · show (p.sl q).mark = 0; exact hh.2 q hq
      · exact hh.2 j hj
    | cons m rs =>
      rw [hr] at hh
      obtain ⟨g1, g2, g3⟩ := hh
      have hlen : (ms.length : Int) = (rs.length : Int) + 1 := by
        have := congrArg List.length hr
        rw [List.length_reverse, List.length_cons] at this
        omega
      have hx := (g2 q hq).2 (by rw [hme, hlen])
      refine ⟨g1, fun j hj => ?_, ?_⟩
      · unfold upS
        split
        · rename_i e; rw [e]; exact g2 q hq
        · exact g2 j hj
      · rw [restoS_over _ _ _ _ hx]; exact g3
  | full _ _ => exact h
  | noted sb wb hm hlt =>
    refine ⟨(Pc.put_same p q _).2.2.2.2.2.2.trans h.len, ⟨(ok_put h.len h.ok hq h0 h1 (by show 0 ≤ (ms.length : Int); omega)).vals, fun x hx => ?_, by rw [List.length_append]; have := h.mst; have := h.top; show nl.length + 1 ≤ _; omega⟩, h.few, by rw [List.length_append]; show ((nl.length + 1 : Nat) : Int) ≤ most; omega, h.top, ?_⟩
    · rcases List.mem_append.1 hx with e | e
      · exact h.ok.nts x e
      · rw [List.mem_singleton] at e
        rw [e]
        exact ⟨hq, hv⟩
    refine hist_congr _ _ (upS p.sl q ⟨n, (ms.length : Int)⟩) _ (fun j hj => (put_sl h.len hq _ j hj).symm) ?_
    have hh := h.hist
    cases hr : ms.reverse with
    | nil =>
      have : ms.length = 0 := by rw [← List.length_reverse, hr]; rfl
      omega
    | cons m rs =>
      rw [hr] at hh
      obtain ⟨g1, g2, g3⟩ := hh
      have hlen : (ms.length : Int) = (rs.length : Int) + 1 := by
        have := congrArg List.length hr
        rw [List.length_reverse, List.length_cons] at this
        omega
      have hd : (nl ++ [Nt.mk q (p.sl q) sb wb]).drop m = nl.drop m ++ [Nt.mk q (p.sl q) sb wb] := List.drop_append_of_le_length g1
      have ht : (nl ++ [Nt.mk q (p.sl q) sb wb]).take m = nl.take m := List.take_append_of_le_length g1
      refine ⟨by rw [List.length_append]; omega, fun j hj => ?_, ?_⟩
      · rw [hd]
        unfold upS
        split
        · rename_i e
          refine ⟨by show (ms.length : Int) ≤ _; omega, fun _ => ⟨Nt.mk q (p.sl q) sb wb, by simp, by rw [e]⟩⟩
        · refine ⟨(g2 j hj).1, fun e => ?_⟩
          obtain ⟨x, hx, hxq⟩ := (g2 j hj).2 e
          exact ⟨x, List.mem_append_left _ hx, hxq⟩
      · rw [ht, hd, restoS_snoc]
        refine hist_congr _ _ _ _ (fun j hj => restoS_at _ _ _ j ?_) g3
        show p.sl j = upS (upS p.sl q ⟨n, (ms.length : Int)⟩) q (p.sl q) j
        unfold upS
        split
        · rename_i e; rw [e]
        · rfl
theorem pstep_inv (h : PInv most p nl ms) (hs : PStep most p nl ms er p' nl' ms') : PInv most p' nl' ms' := by
  cases hs with
  | same _ _ => exact h
  | set q n _ _ _ hq h0 h1 hs => exact setR_inv h hq h0 h1 hs
  | mark hlt =>
    refine ⟨h.len, h.ok, by rw [List.length_append]; show ms.length + 1 ≤ 4; omega, h.mst, h.top, ?_⟩
    rw [List.reverse_append]
    show Hist (nl.length :: ms.reverse) nl p.sl
    refine ⟨Nat.le_refl _, fun q hq => ?_, ?_⟩
    · have := hist_mark _ _ _ h.hist q hq
      exact ⟨by omega, fun e => by omega⟩
    · rw [List.drop_length, List.take_length]; exact h.hist
  | undo m _ he =>
    have hh := h.hist
    rw [he, List.reverse_append] at hh
    obtain ⟨g1, g2, g3⟩ : Hist (m :: ms'.reverse) nl p.sl := hh
    have hqs : ∀ x ∈ nl.drop m, x.q ≤ 17 := fun x hx => (h.ok.nts x (List.mem_of_mem_drop hx)).1
    have hl := (resto_same (nl.drop m) p).2.2.2.2.2.2.trans h.len
    have hvals : ∀ (l : List Nt), (∀ x ∈ l, x.q ≤ 17 ∧ 0 ≤ x.was.has ∧ x.was.has ≤ 1000000 ∧ 0 ≤ x.was.mark) → POk (resto l p) nl := fun l => by
      induction l with
      | nil => exact fun _ => h.ok
      | cons x l ih =>
        intro hx
        have hx1 := hx x List.mem_cons_self
        exact ok_put ((resto_same l p).2.2.2.2.2.2.trans h.len) (ih fun y hy => hx y (List.mem_cons_of_mem _ hy)) hx1.1 hx1.2.1 hx1.2.2.1 hx1.2.2.2
    refine ⟨hl, ⟨(hvals (nl.drop m) fun x hx => h.ok.nts x (List.mem_of_mem_drop hx)).vals, fun x hx => h.ok.nts x (List.mem_of_mem_take hx), by rw [List.length_take]; have := h.ok.len; omega⟩, by have := h.few; rw [he, List.length_append] at this; have : ms'.length + 1 ≤ 4 := this; omega, by rw [List.length_take]; have := h.mst; omega, h.top, ?_⟩
    exact hist_congr _ _ _ _ (fun q hq => (resto_sl h.len _ hqs q hq).symm) g3
theorem PInv.marks (h : PInv most p nl ms) : ∀ m ∈ ms, m ≤ nl.length := fun m hm => hist_le _ _ _ h.hist m (List.mem_reverse.2 hm)
theorem PInv.bare (h : PInv most p nl []) : nl = [] := h.hist.1
end
end Go.Proofs.YteienbdbhnikbaaGreatDoor.Pr

namespace Go.Proofs.YteienbdbhnikbaaGreatDoor.Pr
open Go.RowKit Go.Proofs.YteienbdbhnikbaaGreatDoor Go.Proofs.YteienbdbhnikbaaGreatDoor.Hp Go.Proofs.YteienbdbhnikbaaGreatDoor.Hd
set_option linter.unusedVariables false
attribute [local go_sem] Oper.semAt_some

theorem w3_drew (f s t l p : Value) (o : Opr) (w : World) : let w3 := (W3 f s t l p o w).drew
    w3.cell? ⟨w.heap.size, 0, none⟩ = some f ∧ w3.cell? ⟨w.heap.size, 4, none⟩ = some p ∧ w3.cell? ⟨w.heap.size + 1, 5, none⟩ = some (.string o.path) := by
  have S1 := ((((Sat.start w).alloc (woP f s t l p)).alloc (opO o)).alloc (opO o)).drew
  rw [World.size_alloc] at S1
  rw [World.size_alloc] at S1
  have h1 := woP_cells (S1.perm (show _ = pts w.heap.size (woP f s t l p) * (pts (w.heap.size + 1 + 1) (opO o) * (pts (w.heap.size + 1) (opO o) * keep w)) by ac_rfl))
  have h2 := op_cells (S1.perm (show _ = pts (w.heap.size + 1) (opO o) * (pts (w.heap.size + 1 + 1) (opO o) * (pts w.heap.size (woP f s t l p) * keep w)) by ac_rfl))
  obtain ⟨g0, g1, g2, g3, g4, g5, g6⟩ := h2
  rw [Nat.zero_add] at g5
  exact ⟨h1.1, h1.2.2.2.2, g5⟩
set_option maxRecDepth 100000 in
set_option maxHeartbeats 8000000 in
theorem does_Remove (o : Opr) (f s t l p : Value) (w : World) (Q : Int → ByteArray → Int → World → Prop) (d : Int) (ha : askI o = 11)
    (HD : Calls Tryz.prog 15 #[p] (W3 f s t l p o w).drew fun e w' => e = .returned (.int .i64 d) ∧ (W3 f s t l p o w).drew = w')
    (HC : Calls Tryz.prog 43 #[f, .int .i64 d, .string o.path] (W3 f s t l p o w).drew fun e w' => ∃ er : Int, e = .returned (.int .i64 er) ∧ (w'.cell? ⟨w.heap.size, 0, none⟩ = some f ∧ w'.cell? ⟨w.heap.size, 4, none⟩ = some p ∧ w'.cell? ⟨w.heap.size + 1, 5, none⟩ = some (.string o.path)) ∧ Q 0 ⟨#[]⟩ er w') :
    Calls Tryz.prog 11 #[worldV f s t l p, opA o] w fun e w' => ∃ (n : Int) (s : ByteArray) (er : Int), e = .returned (.tuple #[.int .i64 n, .string s, .int .i64 er]) ∧ Q n s er w' := by
  obtain ⟨⟨c0, c1, c2, c3, c4⟩, e0, e1, e2, e3, e4, e5, e6⟩ := w3_facts f s t l p o w
  obtain ⟨d0, d4, d5⟩ := w3_drew f s t l p o w
  obtain ⟨g0, g1, g2, g3, g4, g5, g6⟩ := w2_op f s t l p o w
  have HA := ask_calls o ((w.alloc (woP f s t l p)).alloc (opO o))
  rw [ha] at HA
  obtain ⟨w2, hw2⟩ : ∃ w2, w2 = (w.alloc (woP f s t l p)).alloc (opO o) := ⟨_, rfl⟩
  obtain ⟨w3, hw3⟩ : ∃ w3, w3 = W3 f s t l p o w := ⟨_, rfl⟩
  have h23 : w2.alloc (opO o) = w3 := by rw [hw3, hw2]
  rw [← hw3] at HD HC d0 d4 d5 c0 c1 c2 c3 c4 e0 e1 e2 e3 e4 e5 e6
  rw [← hw2, h23] at HA
  rw [← hw2] at g0 g1 g2 g3 g4 g5 g6
  have HA := Lib.hid HA
  have HC := Lib.hid HC
  have HD := Lib.hid HD
  obtain ⟨oa, ofd, ofr, okd, on, opt, od⟩ := o
  dsimp only at *
  clear ha hw3 h23
  go_enter Tryz.func11, Tryz.ntmps11
  go_upto_region 1 with fail
  rw [← hw2]
  clear hw2
  go_wp2_with fail
  refine HA.out.mono ?_
  rintro e w' ⟨rfl, rfl⟩
  clear HA g0 g1 g2 g3 g4 g5 g6
  clear c0 c1 c2 c3 c4 e1 e2 e3 e4 e5 e6
  go_upto_region 25 with fail
  refine region_plan (S := (fun w' => w'.cell? ⟨w.heap.size, 0, none⟩ = some f ∧ w'.cell? ⟨w.heap.size, 4, none⟩ = some p ∧ w'.cell? ⟨w.heap.size + 1, 5, none⟩ = some (.string opt))) [(0, true), (1, true), (2, true), (3, true), (5, true), (6, true), (4, false), (7, false), (8, true), (9, true), (10, true)] (by kernel_rfl) (by kernel_rfl) (by kernel_rfl) ?_ ?_
  · ((try dsimp only); (first | done | (first | exact ⟨d0, d4, d5⟩ | exact K6)))
  simp only [planOps, List.map_cons, List.map_nil, List.getElem?_toArray, List.getElem?_cons_zero, List.getElem?_cons_succ]
  repeat (first
    | ((refine plan_yes (v := ?_) (by rfl) ?_ ?_); rotate_left; (focus (intro w hSw; (try dsimp only at hSw); go_simp; try (with_reducible rfl))); (try simp only [Act.put, List.setIfInBounds_toArray, List.set_cons_zero, List.set_cons_succ]))
    | ((refine plan_no (by rfl) ?_); (try simp only [Act.put, List.setIfInBounds_toArray, List.set_cons_zero, List.set_cons_succ]))
    | ((refine plan_step (fun K hK => ?_)); (first | (go_simp; (first | (go_at_call 15; refine HD.out.mono ?_; rintro e w5 ⟨rfl, rfl⟩) | (go_at_call 43; refine HC.out.mono ?_; rintro e w6 ⟨er, rfl, K6, hQ⟩; have hQ := Lib.hid hQ)); (try go_wp2_with fail)) | go_simp); (refine hK.out _ _ ?_ (fun hHeld => ?_)); (focus ((try dsimp only); (first | done | (first | exact ⟨d0, d4, d5⟩ | exact K6)))); clear hK K; (try simp only [Act.put, List.setIfInBounds_toArray, List.set_cons_zero, List.set_cons_succ])))
  refine plan_done ?_
  clear HC HD d0 d4 d5 K6
  go_wp2_with fail
  exact bodyPost_ret (v := .tuple #[.int .i64 0, .string ⟨#[]⟩, .int .i64 er]) (by simp [results, Tryz.results11, go_sem]) rfl ⟨0, ⟨#[]⟩, er, rfl, hQ.out⟩
theorem w3_below (f s t l p : Value) (o : Opr) (w : World) : Ran w (W3 f s t l p o w) := (((Below.refl 0 w).alloc (Nat.zero_le _) _).alloc (Nat.zero_le _) _).alloc (Nat.zero_le _) _
/-- A process of a world: its blocks, what is true of it. -/
structure Gd (c : Pls) (pb lb : Nat) (most : Int) (p : Pc) (nl : List Nt) (ms : List Nat) : Prop where
  link : Link c p
  inv : PInv most p nl ms
  pbE : p.pb = pb
  lbE : p.lb = lb
section
variable {c : Pls} {pb lb N M : Nat} {most : Int} {p p' : Pc} {nl nl' : List Nt} {ms ms' : List Nat} {w w3 w' : World} {R X : Hp} {er : Int}
theorem step_same (hs : PStep most p nl ms er p' nl' ms') : p'.pb = p.pb ∧ p'.lb = p.lb ∧ (Link c p → Link c p') := by
  cases hs with
  | same _ _ => exact ⟨rfl, rfl, id⟩
  | set q n _ _ _ hq h0 h1 hs =>
    cases hs with
    | now _ => exact ⟨(Pc.put_same p q _).1, (Pc.put_same p q _).2.2.2.1, fun h => h.put q _⟩
    | full _ _ => exact ⟨rfl, rfl, id⟩
    | noted _ _ _ _ => exact ⟨(Pc.put_same p q _).1, (Pc.put_same p q _).2.2.2.1, fun h => h.put q _⟩
  | mark _ => exact ⟨rfl, rfl, id⟩
  | undo m _ _ => exact ⟨(resto_same (nl.drop m) p).1, (resto_same (nl.drop m) p).2.2.2.1, fun h => h.resto _⟩
theorem Gd.step (h : Gd c pb lb most p nl ms) (hs : PStep most p nl ms er p' nl' ms') : Gd c pb lb most p' nl' ms' :=
  ⟨(step_same hs).2.2 h.link, pstep_inv h.inv hs, (step_same (c := c) hs).1.trans h.pbE, (step_same (c := c) hs).2.1.trans h.lbE⟩
def DoQ (c : Pls) (pb lb N : Nat) (most : Int) (p : Pc) (nl : List Nt) (ms : List Nat) (w : World) (R : Hp) (n : Int) (s : ByteArray) (er : Int) (w' : World) : Prop :=
  ∃ p' nl' ms', PStep most p nl ms er p' nl' ms' ∧ Gd c pb lb most p' nl' ms' ∧ Sat w' (PH c (N + 2000) b0 most p' nl' ms' * R) ∧ Ran w w'
def DoQ2 (c : Pls) (pb lb N : Nat) (most : Int) (p : Pc) (nl : List Nt) (ms : List Nat) (w : World) (R : Hp) (u : Prop) (n : Int) (s : ByteArray) (er : Int) (w' : World) : Prop :=
  ∃ p' nl' ms', PStep most p nl ms er p' nl' ms' ∧ Gd c pb lb most p' nl' ms' ∧ Sat w' (PH c (N + 2000) b0 most p' nl' ms' * R) ∧ Ran w w' ∧ (u → ms.length ≤ ms'.length)
theorem doq_res (hg : Gd c pb lb most p nl ms) (hM : M ≤ N + 2000) (hR : Ran w w3) (h : Res c M b0 most p nl ms w3 (X * R) er w') (u : Prop) (n : Int) (s : ByteArray) : DoQ2 c pb lb N most p nl ms w R u n s er w' := by
  obtain ⟨p', nl', ms', hs, hS, hR', hms⟩ := h
  exact ⟨p', nl', ms', hs, hg.step hs, ph_more hM ((hS.perm (show _ = X * (PH c M b0 most p' nl' ms' * R) by ac_rfl)).right), Below.trans hR hR', fun _ => by rw [hms]; exact Nat.le_refl _⟩
theorem doq_step (hg : Gd c pb lb most p nl ms) (hM : M ≤ N + 2000) (hR : Ran w w3) (hs : PStep most p nl ms er p' nl' ms') (hS : Sat w' (PH c M b0 most p' nl' ms' * (X * R))) (hR' : Ran w3 w') (u : Prop) (hu : u → ms.length ≤ ms'.length) (n : Int) (s : ByteArray) : DoQ2 c pb lb N most p nl ms w R u n s er w' :=
  ⟨p', nl', ms', hs, hg.step hs, ph_more hM ((hS.perm (show _ = X * (PH c M b0 most p' nl' ms' * R) by ac_rfl)).right), Below.trans hR hR', hu⟩
theorem l_Remove (hN : N ≤ 700000) {d : Int} (hd : I64 d) (path : ByteArray) (hp : path.size ≤ 1000) (hG : Glob R) {b : Int → Int} (h : Sat w (PH c N b most p nl ms * R)) :
    Calls Tryz.prog 43 #[pp c.fb, .int .i64 d, .string path] w fun e w' => (∃ er : Int, e = .returned (.int .i64 er) ∧ er ≠ 43) ∧ Sat w' (PH c (N + 1) b most p nl ms * R) ∧ Ran w w' := by
  obtain ⟨s, hI, hf, hg, hS⟩ := ph_open h
  refine (m_Remove (by omega) hI hd path (by omega) hG.more hS).mono ?_
  rintro e w' ⟨h1, h2⟩
  rw [show rf s.L = fOf b p nl from funext hf, show xt s = gOf p nl from funext hg] at h2
  exact ⟨h1, ph_eff h2⟩
theorem does_all2 (hg : Gd c pb lb most p nl ms) (o : Opr) (ho : OkOp o) (hf : FewO o) (hG : Glob R) (hN : N ≤ 400000) (h : Sat w (PH c N b0 most p nl ms * R)) :
    Calls Tryz.prog 11 #[worldV (pp c.fb) (pp c.bp) (pp c.tb) (pp lb) (pp pb), opA o] w fun e w' => ∃ (n : Int) (s : ByteArray) (er : Int), e = .returned (.tuple #[.int .i64 n, .string s, .int .i64 er]) ∧ DoQ2 c pb lb N most p nl ms w R (askI o ≠ 10) n s er w' := by
  have hg0 := hg
  obtain ⟨hl, hi, rfl, rfl⟩ := hg
  have hpo := hi.ok
  have hb := base0
  have h16 := hl.len
  have hm4 := hi.few
  have hnl : nl.length ≤ 1000 := by have := hi.mst; have := hi.top; omega
  have R3 := w3_below (pp c.fb) (pp c.bp) (pp c.tb) (pp p.lb) (pp p.pb) o w
  have S3 : Sat (W3 (pp c.fb) (pp c.bp) (pp c.tb) (pp p.lb) (pp p.pb) o w) (PH c N b0 most p nl ms * (pts (w.heap.size + 1 + 1) (opO o) * (pts (w.heap.size + 1) (opO o) * pts w.heap.size (woP (pp c.fb) (pp c.bp) (pp c.tb) (pp p.lb) (pp p.pb))) * R)) := by
    have S1 := ((h.alloc (woP (pp c.fb) (pp c.bp) (pp c.tb) (pp p.lb) (pp p.pb))).alloc (opO o)).alloc (opO o)
    rw [World.size_alloc] at S1
    rw [World.size_alloc] at S1
    exact S1.perm (by ac_rfl)
  have hG3 : Glob (pts (w.heap.size + 1 + 1) (opO o) * (pts (w.heap.size + 1) (opO o) * pts w.heap.size (woP (pp c.fb) (pp c.bp) (pp c.tb) (pp p.lb) (pp p.pb))) * R) := hG.more
  obtain ⟨k0, k1, k2, k3, k4, k5, k6⟩ := ho
  obtain ⟨f1, f2⟩ := hf
  have hcas : askI o = 0 ∨ askI o = 1 ∨ askI o = 2 ∨ askI o = 3 ∨ askI o = 4 ∨ askI o = 5 ∨ askI o = 6 ∨ askI o = 7 ∨ askI o = 8 ∨ askI o = 9 ∨ askI o = 10 ∨ askI o = 11 := by
    unfold askI
    omega
  rcases hcas with ha | ha | ha | ha | ha | ha | ha | ha | ha | ha | ha | ha
  · refine does_Open o _ _ _ _ _ w _ ha ((p_Open hl hpo (by omega) hb hm4 o.fd o.path (by omega) o.kind hG3 S3).mono ?_)
    rintro e w' ⟨er, he, hr⟩
    exact ⟨er, he, doq_res hg0 (by omega) R3 hr _ _ _⟩
  · refine does_Put o _ _ _ _ _ w _ ha ((p_Put hl hpo (by omega) hb hm4 o.fd o.frm k2 S3).mono ?_)
    rintro e w' ⟨er, he, hr⟩
    exact ⟨er, he, doq_res hg0 (by omega) R3 hr _ _ _⟩
  · refine does_Dup o _ _ _ _ _ w _ ha ((p_Dup hl hpo (by omega) hb hm4 o.fd o.frm S3).mono ?_)
    rintro e w' ⟨er, he, hr⟩
    exact ⟨er, he, doq_res hg0 (by omega) R3 hr _ _ _⟩
  · refine does_Close o _ _ _ _ _ w _ ha ((p_Close hl hpo (by omega) hb hm4 o.fd S3).mono ?_)
    rintro e w' ⟨er, he, hr⟩
    exact ⟨er, he, doq_res hg0 (by omega) R3 hr _ _ _⟩
  · refine does_Read o _ _ _ _ _ w _ ha ((p_Read hl hpo (by omega) o.fd o.n k4 S3).mono ?_)
    rintro e w' ⟨⟨t, er, he, h43⟩, hS, hR⟩
    exact ⟨t, er, he, doq_res hg0 (by omega) R3 (res_same (Nat.le_refl _) h43 hS hR) _ _ _⟩
  · refine does_Write o _ _ _ _ _ w _ ha ((p_Write hl hpo (by omega) o.fd (d := o.data) (by omega) S3).mono ?_)
    rintro e w' ⟨⟨er, he, h43⟩, hS, hR⟩
    exact ⟨er, he, doq_res hg0 (by omega) R3 (res_same (Nat.le_refl _) h43 hS hR) _ _ _⟩
  · refine does_Chdir o _ _ _ _ _ w _ ha ((p_Chdir hl hpo (by omega) hm4 o.path (by omega) hG3 S3).mono ?_)
    rintro e w' ⟨er, he, hr⟩
    exact ⟨er, he, doq_res hg0 (by omega) R3 hr _ _ _⟩
  · refine does_SetMask o _ _ _ _ _ w _ ha ((p_SetMask hl hpo (by omega) hm4 o.n S3).mono ?_)
    rintro e w' ⟨er, he, hr⟩
    exact ⟨er, he, doq_res hg0 (by omega) R3 hr _ _ _⟩
  · refine does_Mark o _ _ _ _ _ w _ ha ((p_Mark hpo hm4 S3).mono ?_)
    rintro e w' ⟨n, er, he, (⟨rfl, -, hr⟩ | ⟨rfl, h4, hS, hR⟩)⟩
    · exact ⟨n, 42, he, doq_res hg0 (by omega) R3 hr _ _ _⟩
    · exact ⟨n, 0, he, doq_step (M := N) hg0 (by omega) R3 (.mark h4) hS hR _ (fun _ => by rw [List.length_append]; exact Nat.le_add_right _ _) _ _⟩
  · refine does_MarkB o _ _ _ _ _ w _ ha ((p_Mark hpo hm4 S3).mono ?_)
    rintro e w' ⟨n, er, he, (⟨rfl, -, hr⟩ | ⟨rfl, h4, hS, hR⟩)⟩
    · exact ⟨n, 42, he, doq_res hg0 (by omega) R3 hr _ _ _⟩
    · exact ⟨n, 0, he, doq_step (M := N) hg0 (by omega) R3 (.mark h4) hS hR _ (fun _ => by rw [List.length_append]; exact Nat.le_add_right _ _) _ _⟩
  · refine does_Undo o _ _ _ _ _ w _ ha ((p_Undo hl hpo (by omega) hb hm4 hi.marks S3).mono ?_)
    rintro e w' ⟨er, he, ⟨p', nl', ms', hs, hS, hR⟩, -⟩
    exact ⟨er, he, doq_step hg0 (by omega) R3 hs hS hR _ (fun h => absurd ha h) _ _⟩
  · have hv := hpo.vals 16 (by omega)
    have hv : 0 ≤ p.dir.has ∧ p.dir.has ≤ 1000000 ∧ 0 ≤ p.dir.mark := hv
    have S3d := S3.drew
    refine does_Remove o _ _ _ _ _ w _ p.dir.has ha (Dir_calls p h16 _ _ (ph_pc S3d)) ((l_Remove (by omega) (by unfold I64; omega) o.path (by omega) hG3 S3d).mono ?_)
    rintro e w' ⟨⟨er, he, h43⟩, hS, hR⟩
    refine ⟨er, he, ?_, doq_res hg0 (by omega) (Ran.drewN R3 1) (res_same (Nat.le_refl _) h43 hS hR) _ _ _⟩
    have h1 := woP_cells (hS.perm (show _ = pts w.heap.size (woP (pp c.fb) (pp c.bp) (pp c.tb) (pp p.lb) (pp p.pb)) * (pts (w.heap.size + 1 + 1) (opO o) * pts (w.heap.size + 1) (opO o) * PH c (N + 1) b0 most p nl ms * R) by ac_rfl))
    obtain ⟨g0, g1, g2, g3, g4, g5, g6⟩ := op_cells (hS.perm (show _ = pts (w.heap.size + 1) (opO o) * (pts (w.heap.size + 1 + 1) (opO o) * pts w.heap.size (woP (pp c.fb) (pp c.bp) (pp c.tb) (pp p.lb) (pp p.pb)) * PH c (N + 1) b0 most p nl ms * R) by ac_rfl))
    rw [Nat.zero_add] at g5
    exact ⟨h1.1, h1.2.2.2.2, g5⟩
theorem does_all (hg : Gd c pb lb most p nl ms) (o : Opr) (ho : OkOp o) (hf : FewO o) (hG : Glob R) (hN : N ≤ 400000) (h : Sat w (PH c N b0 most p nl ms * R)) :
    Calls Tryz.prog 11 #[worldV (pp c.fb) (pp c.bp) (pp c.tb) (pp lb) (pp pb), opA o] w fun e w' => ∃ (n : Int) (s : ByteArray) (er : Int), e = .returned (.tuple #[.int .i64 n, .string s, .int .i64 er]) ∧ DoQ c pb lb N most p nl ms w R n s er w' := by
  refine (does_all2 hg o ho hf hG hN h).mono ?_
  rintro e w' ⟨n, s, er, he, p', nl', ms', h1, h2, h3, h4, -⟩
  exact ⟨n, s, er, he, p', nl', ms', h1, h2, h3, h4⟩
end
end Go.Proofs.YteienbdbhnikbaaGreatDoor.Pr

