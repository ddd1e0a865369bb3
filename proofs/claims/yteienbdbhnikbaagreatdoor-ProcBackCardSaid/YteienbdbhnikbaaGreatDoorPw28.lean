/- HandlesPlays, part 28 of 31: the texts PrLw PrLl PrFl, joined by a program. -/
import Derived.Test.YteienbdbhnikbaaGreatDoorPw27
import Derived.Test.YteienbdbhnikbaaGreatDoorTie
import Derived.Test.YteienbdbhnikbaaGreatDoorCards
import Derived.SevenTiedAt
import Derived.Stop.Joined
namespace Go.Proofs.YteienbdbhnikbaaGreatDoor.Pr
open Go.RowKit Go.Maps Go.Proofs.YteienbdbhnikbaaGreatDoor Go.Proofs.YteienbdbhnikbaaGreatDoor.Hp Go.Proofs.YteienbdbhnikbaaGreatDoor.Hd
set_option linter.unusedVariables false
attribute [local go_sem] Oper.semAt_some

abbrev BX (c : Pls) (lb pb : Nat) : Obj := woP (pp c.fb) (pp c.bp) (pp c.tb) (pp lb) (pp pb)
theorem inv_begun {most : Int} {p : Pc} (h0 : 0 ≤ most) (h1 : most ≤ 1000) (hf : p.fds = List.replicate 16 ⟨0, 0⟩) (hd : p.dir = ⟨1, 0⟩) (hm : p.mask = ⟨18, 0⟩) : PInv most p [] [] := by
  have h : ∀ q, q ≤ 17 → 0 ≤ (p.sl q).has ∧ (p.sl q).has ≤ 1000000 ∧ (p.sl q).mark = 0 := fun q hq => by
    unfold Pc.sl
    split
    · rename_i h
      rw [hf, List.getD_eq_getElem?_getD, List.getElem?_replicate, if_pos h]
      exact ⟨by decide, by decide, rfl⟩
    · split
      · rw [hd]; exact ⟨by decide, by decide, rfl⟩
      · rw [hm]; exact ⟨by decide, by decide, rfl⟩
  exact ⟨by rw [hf, List.length_replicate], ⟨fun q hq => ⟨(h q hq).1, (h q hq).2.1, by rw [(h q hq).2.2]; exact Int.le_refl _⟩, fun x hx => by simp at hx, by simp⟩, by simp, by simpa using h0, h1, rfl, fun q hq => (h q hq).2.2⟩
def BegQ (most : Int) (R : Hp) (e : Ending) (w' : World) : Prop :=
  ∃ (c : Pls) (pb lb : Nat) (p : Pc), e = .returned (.tuple #[worldV (pp c.fb) (pp c.bp) (pp c.tb) (pp lb) (pp pb), .bool true]) ∧ Gd c pb lb most p [] [] ∧ Sat w' (PH c 20 b0 most p [] [] * R)
theorem begun_gd (most : Int) (hm0 : 0 ≤ most) (hm1 : most ≤ 1000) (w : World) (R : Hp) (hG : Glob R) (h : Sat w R) :
    Calls Tryz.prog 9 #[.int .i64 most] w fun e w' => BegQ most R e w' ∧ Ran w w' := by
  refine (begun_calls most hm0 hm1 w R hG h).mono ?_
  rintro e w' ⟨⟨c, p, rfl, hl, hf, hd, hm, hS⟩, hR⟩
  exact ⟨⟨c, p.pb, p.lb, p, rfl, ⟨hl, inv_begun hm0 hm1 hf hd hm, rfl, rfl⟩, php_ph hS⟩, hR⟩
section
variable {c : Pls} {pb lb N : Nat} {most : Int} {p p' : Pc} {nl nl' : List Nt} {ms ms' : List Nat} {w w' : World} {R : Hp} {er : Int}
theorem told_gd (hg : Gd c pb lb most p nl ms) (hN : N ≤ 600000) (h : Sat w (PH c N b0 most p nl ms * R)) :
    Calls Tryz.prog 23 #[worldV (pp c.fb) (pp c.bp) (pp c.tb) (pp lb) (pp pb)] w (ToldQ c N most p nl ms w R) := by
  obtain ⟨hl, hi, rfl, rfl⟩ := hg
  exact told_calls hl.len hN h
/-- What is refused for there is no room changes nothing. -/
theorem step_full (hi : PInv most p nl ms) (hs : PStep most p nl ms 43 p' nl' ms') : p' = p ∧ nl' = nl ∧ ms' = ms ∧ (nl.length : Int) = most := by
  have hm := hi.mst
  generalize he : (43 : Int) = er at hs
  cases hs with
  | same _ h => exact absurd he.symm h
  | set q n _ _ _ hq h0 h1 hs =>
    cases hs with
    | now _ => exact absurd he (by decide)
    | full _ h => exact ⟨rfl, rfl, rfl, by omega⟩
    | noted _ _ _ _ => exact absurd he (by decide)
  | mark _ => exact absurd he (by decide)
  | undo _ _ _ => exact absurd he (by decide)
theorem told_same {f : Int → Int} {ks ks' : List Int} {T T' : List Int} (h1 : KsF f ks) (h2 : KsF f ks') (e1 : T = toldL f p nl ms ks) (e2 : T' = toldL f p nl ms ks') : T' = T := by
  rw [e1, e2, ksF_unique h2 h1]
theorem told_pos {f : Int → Int} {ks : List Int} {T : List Int} (h16 : p.fds.length = 16) (e1 : T = toldL f p nl ms ks) : 20 ≤ T.length := by
  rw [e1]
  unfold toldL
  rw [List.length_append, List.length_append]
  have : (hasL p).length = 16 := by unfold hasL; rw [List.length_map, h16]
  rw [this]
  show 20 ≤ 4 + 16 + _
  omega
theorem marks_gd (hg : Gd c pb lb most p nl ms) (h : Sat w (PH c N b0 most p nl ms * R)) :
    Calls Tryz.prog 17 #[pp lb] w fun e w' => e = .returned (.int .i64 (ms.length : Int)) ∧ w = w' := by
  obtain ⟨hl, hi, rfl, rfl⟩ := hg
  exact t_mk w h
theorem len_gd (hg : Gd c pb lb most p nl ms) (h : Sat w (PH c N b0 most p nl ms * R)) :
    Calls Tryz.prog 25 #[pp lb] w fun e w' => e = .returned (.int .i64 (nl.length : Int)) ∧ w = w' := by
  obtain ⟨hl, hi, rfl, rfl⟩ := hg
  exact t_len w h
theorem dir_gd (hg : Gd c pb lb most p nl ms) (h : Sat w (PH c N b0 most p nl ms * R)) :
    Calls Tryz.prog 15 #[pp pb] w fun e w' => e = .returned (.int .i64 p.dir.has) ∧ w = w' := by
  obtain ⟨hl, hi, rfl, rfl⟩ := hg
  exact Dir_calls p hl.len w _ (ph_pc h)
/-- Undo of the last mark. -/
theorem undo_gd (hg : Gd c pb lb most p nl ms) (hN : N ≤ 500000) (hne : ms ≠ []) (h : Sat w (PH c N b0 most p nl ms * R)) :
    Calls Tryz.prog 18 #[pp pb] w fun e w' => e = .returned (.int .i64 0) ∧ ∃ m ms0, ms = ms0 ++ [m] ∧ Gd c pb lb most (resto (nl.drop m) p) (nl.take m) ms0 ∧ Sat w' (PH c (N + 1000) b0 most (resto (nl.drop m) p) (nl.take m) ms0 * R) ∧ Ran w w' := by
  have hg0 := hg
  obtain ⟨hl, hi, rfl, rfl⟩ := hg
  have hnl : nl.length ≤ 1000 := by have := hi.mst; have := hi.top; omega
  refine (p_Undo hl hi.ok (by omega) base0 hi.few hi.marks h).mono ?_
  rintro e w' ⟨er, rfl, -, h2⟩
  obtain ⟨rfl, m, ms0, rfl, hS, hR⟩ := h2 hne
  exact ⟨rfl, m, ms0, rfl, hg0.step (.undo m ms0 rfl), ph_more (by omega) hS, hR⟩
/-- A mark is opened. -/
theorem mark_gd (hg : Gd c pb lb most p nl ms) (h : Sat w (PH c N b0 most p nl ms * R)) :
    Calls Tryz.prog 24 #[pp pb] w fun e w' => ∃ n er, e = .returned (.tuple #[.int .i64 n, .int .i64 er]) ∧ ((er = 42 ∧ ms.length = 4 ∧ Sat w' R ∧ Ran w w') ∨ (er = 0 ∧ Gd c pb lb most p nl (ms ++ [nl.length]) ∧ Sat w' (PH c N b0 most p nl (ms ++ [nl.length]) * R) ∧ Ran w w')) := by
  have hg0 := hg
  obtain ⟨hl, hi, rfl, rfl⟩ := hg
  refine (p_Mark hi.ok hi.few h).mono ?_
  rintro e w' ⟨n, er, rfl, (⟨rfl, h4, p', nl', ms', -, hS, hR, -⟩ | ⟨rfl, h4, hS, hR⟩)⟩
  · exact ⟨n, 42, rfl, .inl ⟨rfl, h4, hS.right, hR⟩⟩
  · exact ⟨n, 0, rfl, .inr ⟨rfl, hg0.step (.mark h4), hS, hR⟩⟩
/-- An fd is closed while no mark is open. -/
def ClQ (c : Pls) (pb lb N : Nat) (most : Int) (p : Pc) (i : Nat) (w : World) (R : Hp) (e : Ending) (w' : World) : Prop :=
  e = .returned (.int .i64 0) ∧ ∃ p', Gd c pb lb most p' [] [] ∧ (p'.sl i).has = 0 ∧ (∀ j, j ≤ 17 → j ≠ i → p'.sl j = p.sl j) ∧ Sat w' (PH c (N + 3) b0 most p' [] [] * R) ∧ Ran w w'
set_option maxRecDepth 100000 in
set_option maxHeartbeats 4000000 in
theorem close_gd (hg : Gd c pb lb most p [] []) (hN : N ≤ 500000) (i : Nat) (hi : i < 16) (h : Sat w (PH c N b0 most p [] [] * R)) :
    Calls Tryz.prog 19 #[pp pb, .int .i64 (i : Int)] w (ClQ c pb lb N most p i w R) := by
  have hg0 := hg
  obtain ⟨hl, hv, rfl, rfl⟩ := hg
  have h16 := hl.len
  have hil : i < p.fds.length := by omega
  have HA := Lib.hid (at_calls p.pb i hi w)
  have k2 := (pc_fd (ph_pc h) i hil).1
  have hsl := sl_fd hi hil
  obtain ⟨x, hx⟩ : ∃ x, x = p.fds[i].has := ⟨_, rfl⟩
  have hx1 : (p.sl i).has = x := by rw [hsl, hx]
  rw [← hx] at k2
  have HS : Hid (Calls Tryz.prog 56 #[pp p.pb, slP p.pb i, .int .i64 0] w (ClQ c p.pb p.lb N most p i w R)) := Lib.hid (by
    refine (fd_set hl (by omega) base0 hi 0 (fun h1 => absurd h1 (by decide)) (by simp) (by simp) (hv.ok.vals i (by omega)).2.2 (php h)).mono ?_
    rintro e w' ⟨er, p', nl', rfl, hs, hS, hR⟩
    have h0 : ((([] : List Nat).length : Nat) : Int) = 0 := rfl
    have hm0 := (hv.ok.vals i (by omega)).2.2
    have hst : PStep most p [] [] er p' nl' [] := .set i 0 er p' nl' (by omega) (by decide) (by decide) hs
    have hgp := hg0.step hst
    cases hs with
    | now _ =>
      refine ⟨rfl, _, hgp, ?_, fun j hj hne => ?_, ph_more (by omega) hS, hR⟩
      · rw [put_sl h16 (by omega) _ i (by omega)]; unfold upS; rw [if_pos rfl]
      · rw [put_sl h16 (by omega) _ j hj]; unfold upS; rw [if_neg hne]
    | full h1 _ => omega
    | noted _ _ h1 _ => omega)
  have HZ : Hid (x = 0 → ClQ c p.pb p.lb N most p i w R (.returned (.int .i64 0)) w) := Lib.hid fun hz => ⟨rfl, p, hg0, by rw [hx1, hz], fun j _ _ => rfl, ph_more (by omega) h, Below.refl 0 w⟩
  clear hx hx1 hsl h hg0 hv hl
  by_cases hz : x = 0
  · subst hz
    go_enter Tryz.func19, Tryz.ntmps19
    go_wp2_with fail
    refine HA.out.mono ?_
    rintro e w1 ⟨rfl, rfl⟩
    go_wp2_with fail
    go_ret
    exact HZ.out (by trivial)
  · have hzb : (x == 0) = false := by simpa using hz
    go_enter Tryz.func19, Tryz.ntmps19
    go_wp2_with fail
    refine HA.out.mono ?_
    rintro e w1 ⟨rfl, rfl⟩
    go_wp2_with fail
    refine HS.out.mono ?_
    rintro e w3 ⟨rfl, hres⟩
    have hres := Lib.hid hres
    go_wp2_with fail
    go_ret
    exact ⟨rfl, hres.out⟩
/-- No fd is open: each handle has the refs of the beginning. -/
theorem nF_none : ∀ (l : List Sl) (k : Int), (∀ s ∈ l, s.has = 0) → nF l k = 0
  | [], _, _ => rfl
  | s :: l, k, h => by
    show dl s.has k + nF l k = 0
    rw [nF_none l k fun x hx => h x (List.mem_cons_of_mem _ hx), h s List.mem_cons_self]
    unfold dl
    rw [if_neg (by omega)]
    rfl
theorem f_none (h16 : p.fds.length = 16) (h : ∀ i, i < 16 → (p.sl i).has = 0) : fOf b0 p [] = b0 := by
  funext k
  unfold fOf
  rw [nF_none p.fds k fun s hs => by
    obtain ⟨i, hi, e⟩ := List.getElem_of_mem hs
    have := h i (by omega)
    rw [sl_fd (by omega) hi, e] at this
    exact this]
  show b0 k + 0 + 0 = b0 k
  omega
theorem ks_b0 {ks : List Int} (h : KsF b0 ks) : ks = [1, 2, 3, 4] := by
  refine rising_eq _ _ h.1 (by simp) fun x => (h.2 x).trans ?_
  unfold b0
  constructor
  · intro h1
    split at h1
    · rename_i h2
      have : x = 1 ∨ x = 2 ∨ x = 3 ∨ x = 4 := by omega
      simpa using this
    · exact absurd h1 (by decide)
  · intro h1
    have : x = 1 ∨ x = 2 ∨ x = 3 ∨ x = 4 := by simpa using h1
    rw [if_pos (by omega)]
    exact Int.le_refl _
theorem sum_none {α : Type} (f : α → Nat) : ∀ (L : List (Int × α)), (∀ k x, (k, x) ∈ L → f x = 0) → sumA f L = 0
  | [], _ => rfl
  | q :: L, h => by
    show f q.2 + sumA f L = 0
    rw [h q.1 q.2 List.mem_cons_self, sum_none f L fun k x hx => h k x (List.mem_cons_of_mem _ hx)]
theorem mem_findA {α : Type} : ∀ (L : List (Int × α)) (k : Int) (x : α), (L.map Prod.fst).Nodup → (k, x) ∈ L → findA L k = some x
  | [], k, x, _, h => by cases h
  | q :: L, k, x, hn, h => by
    rw [List.map_cons, List.nodup_cons] at hn
    obtain ⟨q1, q2⟩ := q
    rw [findA_cons]
    rcases List.mem_cons.1 h with e | e
    · injection e with e1 e2
      rw [if_pos e1, e2]
    · have hne : k ≠ q1 := fun e1 => hn.1 (by rw [← e1]; exact List.mem_map.2 ⟨(k, x), e, rfl⟩)
      rw [if_neg hne]
      exact mem_findA L k x hn.2 e
/-- How often a node is held. -/
theorem holds_gd (hg : Gd c pb lb most p [] []) (hf : fOf b0 p [] = b0) (hN : N ≤ 600000) {n : Int} (hn : I64 n) (h : Sat w (PH c N b0 most p [] [] * R)) :
    Calls Tryz.prog 22 #[pp c.fb, .int .i64 n] w fun e w' => (∃ k z m er, e = .returned (.tuple #[.agg #[.int .i64 k, .int .i64 z, .int .i64 m, .int .i64 (if n = p.dir.has then 1 else 0)], .int .i64 er])) ∧ Sat w' (PH c N b0 most p [] [] * R) ∧ Ran w w' := by
  obtain ⟨s, hI, hff, hgg, hS⟩ := ph_open h
  have hz : sumA (cF n) s.L = 0 := sum_none _ _ fun k x hx => by
    have hk := mem_findA s.L k x hI.nd hx
    have h1 := (hI.refs k x hk).1
    have h2 : rf s.L k = x.refs := rf_some hk
    rw [hff, hf] at h2
    have h3 : k ≤ 4 := by
      unfold b0 at h2
      split at h2
      · omega
      · omega
    have h4 := hI.cls k x hk
    unfold cF
    cases ht : x.t with
    | file j a m =>
      rw [ht] at h4
      have : 5 ≤ k := h4.2 rfl
      omega
    | text s a => rfl
    | sink sp q cap l most => rfl
    | reader bb eb => rfl
    | writer bb eb => rfl
  have hh : Hd.hf s.F n = if n = p.dir.has then 1 else 0 := by
    have h1 := hgg n
    unfold xt gOf at h1
    rw [hz] at h1
    have h2 : nD [] n = 0 := rfl
    rw [h2] at h1
    omega
  refine (m_FHolds (by omega) hI hn hS).mono ?_
  rintro e w' ⟨⟨k, z, m, er, rfl⟩, h2, h3⟩
  rw [hh]
  exact ⟨⟨k, z, m, er, rfl⟩, ph_in hI hff hgg trivial h2, h3⟩
end
end Go.Proofs.YteienbdbhnikbaaGreatDoor.Pr

namespace Go.Proofs.YteienbdbhnikbaaGreatDoor.Pr
open Go.RowKit Go.Maps Go.Proofs.YteienbdbhnikbaaGreatDoor Go.Proofs.YteienbdbhnikbaaGreatDoor.Hp Go.Proofs.YteienbdbhnikbaaGreatDoor.Hd
set_option linter.unusedVariables false
attribute [local go_sem] Oper.semAt_some

theorem fin_true {W w1 w2 : World} (h1 : Ran W w1) (hs : Sat w2 (keep W)) (h2 : Ran w1 w2) : Below W.heap.size W w2 := Ran.whole' (Below.trans h1 h2) hs
/-- A loop of calls: n0 is the bound on numbers at its beginning, X what lies beside. -/
def LpD (c : Pls) (pb lb : Nat) (most : Int) (len n0 wb : Nat) (X : Hp) (W : World) (g : Nat) (vi : Value) (wr : World) : Prop :=
  ∃ (i : Nat) (p : Pc) (nl : List Nt) (ms : List Nat), vi = .int .i64 (i : Int) ∧ i + g = len ∧ Gd c pb lb most p nl ms ∧ Sat wr (PH c (n0 + 2000 * i) b0 most p nl ms * (pts wb (BX c lb pb) * X)) ∧ Ran W wr
/-- A call of a law: what it needs of its world. -/
theorem does_lp {c : Pls} {pb lb N : Nat} {most : Int} {p : Pc} {nl : List Nt} {ms : List Nat} {w : World} {R : Hp} (hg : Gd c pb lb most p nl ms) (o : Opr) (ho : OkOp o) (hf : FewO o) (hG : Glob R) (hN : N ≤ 400000) (h : Sat w (PH c N b0 most p nl ms * R)) :
    Calls Tryz.prog 11 #[worldV (pp c.fb) (pp c.bp) (pp c.tb) (pp lb) (pp pb), opA o] w fun e w' => ∃ (n : Int) (s : ByteArray) (er : Int), e = .returned (.tuple #[.int .i64 n, .string s, .int .i64 er]) ∧ DoQ c pb lb N most p nl ms w R n s er w' := does_all hg o ho hf hG hN h
/-- Two rows of numbers compared, one by one. -/
def LpC (len : Nat) (X : Hp) (W : World) (g : Nat) (vi : Value) (wr : World) : Prop :=
  ∃ (k : Nat), vi = .int .i64 (k : Int) ∧ k + g = len ∧ Sat wr X ∧ Ran W wr
end Go.Proofs.YteienbdbhnikbaaGreatDoor.Pr

namespace Go.Proofs.YteienbdbhnikbaaGreatDoor.procFull
open Go.ChangeShapes Go.WideShapes Go.ChangeAt Go.RowKit Go.Maps Go.Proofs.YteienbdbhnikbaaGreatDoor Go.Proofs.YteienbdbhnikbaaGreatDoor.Hp Go.Proofs.YteienbdbhnikbaaGreatDoor.Hd Go.Proofs.YteienbdbhnikbaaGreatDoor.Pr Go.ChangeMaps
set_option linter.unusedVariables false
attribute [local go_sem] Oper.semAt_some

set_option maxRecDepth 100000 in
set_option maxHeartbeats 4000000 in
theorem walk (ao : Option Addr) (cap : Nat) (l : List Opr) (most : Int) (W : World) (hl : OpsAt W ao l) (hq : I64 most) (hg : Glob (keep W)) :
    Calls Tryz.prog 6 #[.slice ao l.length cap, .int .i64 most] W fun e w' => e = .returned (.bool true) ∧ Below W.heap.size W w' := by
  have HF := Lib.hid (few_calls l ao cap W hl)
  have HA := Lib.hid (fun w hw => awake_calls w (keep W) hg hw)
  have HL := Lib.hid hl
  have HG := Lib.hid hg
  clear hl hg hq
  go_enter Tryz.func6, Tryz.ntmps6
  go_wp2_with fail
  refine HF.out.mono ?_
  rintro e w1 ⟨⟨r, rfl, hr⟩, rfl⟩
  clear HF
  cases r with
  | false =>
    have hA := Lib.hid (HA.out W (Sat.start W))
    clear hr
    go_wp2_with fail
    refine hA.out.mono ?_
    rintro e w9 ⟨⟨rfl, h2⟩, h3⟩
    have h2 := Lib.hid h2
    have h3 := Lib.hid h3
    clear hA
    go_wp2_with fail
    go_ret
    exact ⟨rfl, fin_true (Below.refl 0 W) h2.out h3.out⟩
  | true =>
    have HFw := Lib.hid (hr rfl)
    clear hr
    by_cases hm0 : most < 0
    · have hm0b : (decide (most < 0)) = true := by simpa using hm0
      have hA := Lib.hid (HA.out W (Sat.start W))
      go_wp2_with fail
      refine hA.out.mono ?_
      rintro e w9 ⟨⟨rfl, h2⟩, h3⟩
      have h2 := Lib.hid h2
      have h3 := Lib.hid h3
      clear hA
      go_wp2_with fail
      go_ret
      exact ⟨rfl, fin_true (Below.refl 0 W) h2.out h3.out⟩
    by_cases hm1 : 10 < most
    · have hm1b : (decide (10 < most)) = true := by simpa using hm1
      have hA := Lib.hid (HA.out W (Sat.start W))
      go_wp2_with fail
      refine hA.out.mono ?_
      rintro e w9 ⟨⟨rfl, h2⟩, h3⟩
      have h2 := Lib.hid h2
      have h3 := Lib.hid h3
      clear hA
      go_wp2_with fail
      go_ret
      exact ⟨rfl, fin_true (Below.refl 0 W) h2.out h3.out⟩
    have HB := Lib.hid (begun_gd most (by omega) (by omega) W (keep W) HG.out (Sat.start W))
    go_wp2_with fail
    refine HB.out.mono ?_
    rintro e w1 ⟨⟨c, pb, lb, p0, rfl, hgd0, S0⟩, R0⟩
    clear HB
    have S1 := (S0.alloc (BX c lb pb)).perm (show _ = PH c 20 b0 most p0 [] [] * (pts w1.heap.size (BX c lb pb) * keep W) by ac_rfl)
    have R1 := Lib.hid (Ran.new R0 (BX c lb pb))
    obtain ⟨wb, hwb⟩ : ∃ b, b = w1.heap.size := ⟨_, rfl⟩
    obtain ⟨w2, hw2⟩ : ∃ w2, w2 = w1.alloc (BX c lb pb) := ⟨_, rfl⟩
    rw [← hwb, ← hw2] at S1
    rw [← hw2] at R1
    have S1 := Lib.hid S1
    have Hgd0 := Lib.hid hgd0
    clear S0 R0 hgd0
    go_upto_region 6 with fail
    rw [← hwb, ← hw2]
    clear hwb hw2
    go_wp2_with fail
    go_loopg [7, 8, 9, 10, 11, 12, 13] (l.length) (fun (g : Nat) (v7 v8 v9 v10 v11 v12 v13 : Value) (wr : World) => LpD c pb lb most l.length 20 wb (keep W) W g v7 wr)
    case atStart => exact ⟨0, p0, [], [], rfl, by omega, Hgd0.out, S1.out, R1.out⟩
    case round =>
      clear S1 R1
      obtain ⟨i, p, nl, ms, rfl, hgk, hgd, HSi, HRi⟩ := hrel
      have h50 : l.length ≤ 50 := HFw.out.1
      by_cases hlt : i < l.length
      · have hltI : (i : Int) < l.length := by omega
        have hi0 : (0 : Int) ≤ (i : Int) := by omega
        obtain ⟨op, hope⟩ : ∃ op, op = l[i] := ⟨_, rfl⟩
        have hfo : FewO op := HFw.out.2 op (by rw [hope]; exact List.getElem_mem hlt)
        obtain ⟨okx, b, o, rfl, hbW, hop⟩ := HL.out i hlt
        rw [← hope] at okx hop
        have HopA := Lib.hid (fun (W' : World) (hk : ∀ k, k < W.heap.size → W'.heap[k]? = W.heap[k]?) => hop.keep (hk b hbW))
        have HT := Lib.hid (told_gd hgd (by omega) HSi)
        obtain ⟨c0, c1, c2, c3, c4⟩ := woP_cells (HSi.perm (show _ = pts wb (BX c lb pb) * (PH c (20 + 2000 * i) b0 most p nl ms * keep W) by ac_rfl))
        have HRi := Lib.hid HRi
        have Hgd := Lib.hid hgd
        clear HSi hgd
        go_wp2_with fail
        refine HT.out.mono ?_
        rintro e w3 ⟨ks, T, q, qc, hks, hT, hTl, rfl, S3, R3⟩
        have hTp := told_pos Hgd.out.link.len hT
        obtain ⟨b1, o1, rfl⟩ := (S3.perm (show _ = arr 3 1 q T.length qc (T.map iv) * (PH c (20 + 2000 * i) b0 most p nl ms * (pts wb (BX c lb pb) * keep W)) by ac_rfl)).arr_addr (by have := (S3.perm (show _ = arr 3 1 q T.length qc (T.map iv) * (PH c (20 + 2000 * i) b0 most p nl ms * (pts wb (BX c lb pb) * keep W)) by ac_rfl)).arr_len.2.1; omega)
        have HT1 := Lib.hid (And.intro hks hT)
        have HRi := Lib.hid (Below.trans HRi.out R3)
        clear HT c0 c1 c2 c3 c4 hks hT R3
        have Sd := S3.drew
        have HD := Lib.hid (does_lp Hgd.out op okx hfo (HG.out.more.more) (by omega) Sd)
        have HK : Hid (∀ (W' : World) (A : Hp), Sat W' (A * (arr 3 1 (some ⟨b1, o1, none⟩) T.length qc (T.map iv) * (pts wb (BX c lb pb) * keep W))) → W'.cell? ⟨wb, 0, none⟩ = some (Hd.pp c.fb) ∧ W'.cell? ⟨wb, 1, none⟩ = some (Hd.pp c.bp) ∧ W'.cell? ⟨wb, 2, none⟩ = some (Hd.pp c.tb) ∧ W'.cell? ⟨wb, 3, none⟩ = some (Hd.pp lb) ∧ W'.cell? ⟨wb, 4, none⟩ = some (Hd.pp pb) ∧ W'.cell? ⟨b, o + i * 7, none⟩ = some (.int .i64 op.ask) ∧ W'.cell? ⟨b, o + i * 7 + 1, none⟩ = some (.int .i64 op.fd) ∧ W'.cell? ⟨b, o + i * 7 + 2, none⟩ = some (.int .i64 op.frm) ∧ W'.cell? ⟨b, o + i * 7 + 3, none⟩ = some (.int .i64 op.kind) ∧ W'.cell? ⟨b, o + i * 7 + 4, none⟩ = some (.int .i64 op.n) ∧ W'.cell? ⟨b, o + i * 7 + 5, none⟩ = some (.string op.path) ∧ W'.cell? ⟨b, o + i * 7 + 6, none⟩ = some (.string op.data)) := Lib.hid fun W' A h => by
          have q := woP_cells h.right.right
          exact ⟨q.1, q.2.1, q.2.2.1, q.2.2.2.1, q.2.2.2.2, HopA.out W' h.right.right.right.kept⟩
        obtain ⟨oa, ofd, ofr, okd, on, opt, od⟩ := op
        dsimp only at HK
        have K4 := HK.out _ _ Sd
        have Rd := Lib.hid (Ran.drewN HRi.out 1)
        clear Sd okx hfo hbW hop hope HopA
        go_upto_region 10 with fail
        refine region_plan (S := (fun w' => w'.cell? ⟨wb, 0, none⟩ = some (Hd.pp c.fb) ∧ w'.cell? ⟨wb, 1, none⟩ = some (Hd.pp c.bp) ∧ w'.cell? ⟨wb, 2, none⟩ = some (Hd.pp c.tb) ∧ w'.cell? ⟨wb, 3, none⟩ = some (Hd.pp lb) ∧ w'.cell? ⟨wb, 4, none⟩ = some (Hd.pp pb) ∧ w'.cell? ⟨b, o + i * 7, none⟩ = some (.int .i64 oa) ∧ w'.cell? ⟨b, o + i * 7 + 1, none⟩ = some (.int .i64 ofd) ∧ w'.cell? ⟨b, o + i * 7 + 2, none⟩ = some (.int .i64 ofr) ∧ w'.cell? ⟨b, o + i * 7 + 3, none⟩ = some (.int .i64 okd) ∧ w'.cell? ⟨b, o + i * 7 + 4, none⟩ = some (.int .i64 on) ∧ w'.cell? ⟨b, o + i * 7 + 5, none⟩ = some (.string opt) ∧ w'.cell? ⟨b, o + i * 7 + 6, none⟩ = some (.string od))) [(0, true), (1, true), (2, true), (3, true), (4, true), (5, false), (6, true), (7, true), (8, true), (9, true), (10, true), (11, true), (12, true)] (by kernel_rfl) (by kernel_rfl) (by kernel_rfl) ?_ ?_
        · ((try dsimp only); (first | done | (first | with_reducible exact K4 | with_reducible exact K5)))
        simp only [planOps, List.map_cons, List.map_nil, List.getElem?_toArray, List.getElem?_cons_zero, List.getElem?_cons_succ]
        repeat (first
          | ((refine plan_yes (v := ?_) (by rfl) ?_ ?_); rotate_left; (focus (intro w hSw; (try dsimp only at hSw); go_simp; try (with_reducible rfl))); (try simp only [Act.put, List.setIfInBounds_toArray, List.set_cons_zero, List.set_cons_succ]))
          | ((refine plan_no (by rfl) ?_); (try simp only [Act.put, List.setIfInBounds_toArray, List.set_cons_zero, List.set_cons_succ]))
          | ((refine plan_step (fun K hK => ?_)); (first | (go_simp; ((go_at_call 11; refine HD.out.mono ?_; rintro e w5 ⟨n, s, er, rfl, p', nl', ms', hst, hgd', S5, R5⟩; have K5 := HK.out _ _ S5)); (try go_wp2_with fail)) | go_simp); (refine hK.out _ _ ?_ (fun hHeld => ?_)); (focus ((try dsimp only); (first | done | (first | with_reducible exact K4 | with_reducible exact K5)))); clear hK K; (try simp only [Act.put, List.setIfInBounds_toArray, List.set_cons_zero, List.set_cons_succ])))
        refine plan_done ?_
        have R5 := Lib.hid (Below.trans Rd.out R5)
        have Hst := Lib.hid hst
        have Hgd' := Lib.hid hgd'
        clear HD HK K4 K5 Rd hst hgd'
        by_cases h43 : er = 43
        · subst h43
          obtain ⟨rfl, rfl, rfl, hfull⟩ := step_full Hgd.out.inv Hst.out
          have HT := Lib.hid (told_gd Hgd'.out (by omega) S5)
          obtain ⟨c0, c1, c2, c3, c4⟩ := woP_cells (S5.perm (show _ = pts wb (BX c lb pb) * (PH c (20 + 2000 * i + 2000) b0 most p' nl' ms' * (arr 3 1 (some ⟨b1, o1, none⟩) T.length qc (T.map iv) * keep W)) by ac_rfl))
          have Hfull := Lib.hid hfull
          clear S5 hfull S3
          go_wp2_with fail
          refine HT.out.mono ?_
          rintro e w6 ⟨ks2, T2, q2, qc2, hks2, hT2, hTl2, rfl, S6, R6⟩
          obtain rfl : T2 = T := told_same HT1.out.1 hks2 HT1.out.2 hT2
          obtain ⟨b2, o2, rfl⟩ := (S6.perm (show _ = arr 3 1 q2 T2.length qc2 (T2.map iv) * (PH c (20 + 2000 * i + 2000) b0 most p' nl' ms' * (arr 3 1 (some ⟨b1, o1, none⟩) T2.length qc (T2.map iv) * (pts wb (BX c lb pb) * keep W))) by ac_rfl)).arr_addr (by have := (S6.perm (show _ = arr 3 1 q2 T2.length qc2 (T2.map iv) * (PH c (20 + 2000 * i + 2000) b0 most p' nl' ms' * (arr 3 1 (some ⟨b1, o1, none⟩) T2.length qc (T2.map iv) * (pts wb (BX c lb pb) * keep W))) by ac_rfl)).arr_len.2.1; omega)
          obtain ⟨-, -, -, c3, -⟩ := woP_cells (S6.perm (show _ = pts wb (BX c lb pb) * (PH c (20 + 2000 * i + 2000) b0 most p' nl' ms' * (arr 3 1 (some ⟨b2, o2, none⟩) T2.length qc2 (T2.map iv) * (arr 3 1 (some ⟨b1, o1, none⟩) T2.length qc (T2.map iv) * keep W))) by ac_rfl))
          have HLn := len_gd Hgd'.out S6
          rw [Hfull.out] at HLn
          have HLn := Lib.hid HLn
          have S6 := Lib.hid S6
          have R6 := Lib.hid (Below.trans R5.out R6)
          have HTl := Lib.hid (And.intro hTp hTl)
          clear HT hks2 hT2 hTl2 c0 c1 c2 c4 hTp hTl R5
          go_wp2_with fail
          refine HLn.out.mono ?_
          rintro e w7 ⟨rfl, rfl⟩
          clear HLn c3
          go_wp2_with fail
          go_loopg [13] (T2.length) (fun (g : Nat) (v13 : Value) (wr : World) => LpC T2.length (PH c (20 + 2000 * i + 2000) b0 most p' nl' ms' * (arr 3 1 (some ⟨b2, o2, none⟩) T2.length qc2 (T2.map iv) * (arr 3 1 (some ⟨b1, o1, none⟩) T2.length qc (T2.map iv) * (pts wb (BX c lb pb) * keep W)))) W g v13 wr)
          case atStart => exact ⟨0, rfl, by omega, S6.out, R6.out⟩
          case round =>
            clear S6 R6
            obtain ⟨k, rfl, hgk2, S7, R7⟩ := hrel
            by_cases hk : k < T2.length
            · have hkI : (k : Int) < T2.length := by omega
              have hk0 : (0 : Int) ≤ (k : Int) := by omega
              have hkb : k ≤ 3000000 := by have := HTl.out.2; omega
              obtain ⟨x, hx⟩ : ∃ x, x = T2[k] := ⟨_, rfl⟩
              have S8 := S7.drew
              have k1 := arr_int S8.right k hk
              have k2 := arr_int S8.right.right k hk
              rw [← hx] at k1 k2
              have R8 := Lib.hid (Ran.drewN R7 1)
              have S8 := Lib.hid S8
              clear hx S7 R7
              go_upto_region 18 with fail
              refine region_plan (S := (fun w' => w'.cell? ⟨b2, o2 + k, none⟩ = some (.int .i64 x) ∧ w'.cell? ⟨b1, o1 + k, none⟩ = some (.int .i64 x))) [(0, true), (1, true), (2, true), (3, true), (4, true), (5, true), (6, true), (7, true), (8, true)] (by kernel_rfl) (by kernel_rfl) (by kernel_rfl) ?_ ?_
              · ((try dsimp only); (first | done | (exact ⟨k1, k2⟩)))
              simp only [planOps, List.map_cons, List.map_nil, List.getElem?_toArray, List.getElem?_cons_zero, List.getElem?_cons_succ]
              repeat (first
                | ((refine plan_yes (v := ?_) (by rfl) ?_ ?_); rotate_left; (focus (intro w hSw; (try dsimp only at hSw); go_simp; try (with_reducible rfl))); (try simp only [Act.put, List.setIfInBounds_toArray, List.set_cons_zero, List.set_cons_succ]))
                | ((refine plan_no (by rfl) ?_); (try simp only [Act.put, List.setIfInBounds_toArray, List.set_cons_zero, List.set_cons_succ]))
                | ((refine plan_step (fun K hK => ?_)); (first | (fail) | (go_simp; (fail); (try go_wp2_with fail)) | go_simp); (refine hK.out _ _ ?_ (fun hHeld => ?_)); (focus ((try dsimp only); (first | done | (exact ⟨k1, k2⟩)))); clear hK K; (try simp only [Act.put, List.setIfInBounds_toArray, List.set_cons_zero, List.set_cons_succ])))
              refine plan_done ?_
              clear k1 k2
              go_wp2_with fail
              go_roundg (T2.length - (k + 1))
              case measure => omega
              case rel => exact ⟨k + 1, by simp, by omega, S8.out, R8.out⟩
            · have hkI : (T2.length : Int) ≤ k := by omega
              have S9 := Lib.hid (S7.perm (show _ = arr 3 1 (some ⟨b2, o2, none⟩) T2.length qc2 (T2.map iv) * (arr 3 1 (some ⟨b1, o1, none⟩) T2.length qc (T2.map iv) * (PH c (20 + 2000 * i + 2000) b0 most p' nl' ms' * (pts wb (BX c lb pb) * keep W))) by ac_rfl)).right.right
              have R9 := Lib.hid R7
              clear S7 R7
              go_wp2_with fail
              go_roundg (l.length - (i + 1))
              case measure => omega
              case rel => exact ⟨i + 1, p', nl', ms', by simp, by omega, Hgd'.out, S9.out, R9.out⟩
        · have h43b : (er == 43) = false := by simpa using h43
          have S6 := Lib.hid (S5.perm (show _ = arr 3 1 (some ⟨b1, o1, none⟩) T.length qc (T.map iv) * (PH c (20 + 2000 * i + 2000) b0 most p' nl' ms' * (pts wb (BX c lb pb) * keep W)) by ac_rfl)).right
          clear S5 S3
          go_wp2_with fail
          go_roundg (l.length - (i + 1))
          case measure => omega
          case rel => exact ⟨i + 1, p', nl', ms', by simp, by omega, Hgd'.out, S6.out, R5.out⟩
      · have hge : (l.length : Int) ≤ i := by omega
        have S9 := HSi.right.right
        have R9 := Lib.hid HRi
        have hA := Lib.hid (HA.out wr S9)
        clear S9 HSi HRi
        go_wp2_with fail
        refine hA.out.mono ?_
        rintro e w9 ⟨⟨rfl, h2⟩, h3⟩
        have h2 := Lib.hid h2
        have h3 := Lib.hid h3
        clear hA
        go_wp2_with fail
        go_ret
        exact ⟨rfl, fin_true R9.out h2.out h3.out⟩
theorem own : ownKnob Tryz.prog.godebug = none := by kernel_rfl
theorem laidOut : laidOutB Tryz.prog = true := by kernel_rfl

set_option maxRecDepth 100000 in
theorem lifted (os : Os) (started : os.Started) (H : Type) (enc : TypeId × Value → H) :
    ReturnsInHanded {} Tryz.checked os 6 .any (fun w args => (Rows.procFullSpec.pre enc Tryz.prog Tryz.f6 Rows.procFullRow.domain false w args ∧ laidMetH Tryz.prog Rows.procFullRow.laid w) ∧ sizedMet enc Tryz.prog Tryz.f6 (OpenSpec.ofChange Rows.procFullSpec) false w args) (Rows.procFullSpec.post enc Tryz.prog Tryz.f6 false true false false) := by
  refine handed_shaped (C := Tryz.checked) (X := fun w _ => laidMetH Tryz.prog Rows.procFullRow.laid w) (fun _ _ _ hh h => h.of_heap hh) own started (by kernel_rfl) Tryz.func6
    (ChangeSpec.witness_shaped (enc := enc) (C := Tryz.checked) (os := os) (X := fun w _ => laidMetH Tryz.prog Rows.procFullRow.laid w) false (World.laidAll Tryz.prog os Rows.procFullRow.laid) #[.slice none 0 0, .int .i64 0] 8 (World.laidAll_os _ _ _)
      (World.shaped_of_ZipB (by kernel_rfl) (by kernel_rfl)) (by kernel_rfl) (by kernel_rfl) (by kernel_rfl)
      (by rw [MakeChecks.laidMetH_plain _ _ _ (by kernel_rfl)]; exact laidMet_laidAll _ (by kernel_rfl) (by kernel_rfl))) ?_
  intro W base args ds gs before hval0 hW hcnd _ hL hsh
  have hval : ∀ (j : Nat) t v, Tryz.f6.params[j]? = some t → args[j]? = some v → Value.okWide Tryz.prog W .any base t v := hval0
  have hW' := hW
  obtain ⟨p, q, hA0, hV, rfl, hfz, hnd⟩ := hW
  have hA : DataW.TrodAll enc Tryz.prog W 0 (fun _ => true) true Tryz.f6.params.toList args.toList ds p := hA0
  rw [Tryz.params6] at hA hval
  obtain ⟨v0, vs0, d0, ds0, p0, q0, hargs, rfl, rfl, h0, r0⟩ := trodAll_cons hA
  obtain ⟨v1, vs1, d1, ds1, p1, q1, rfl, rfl, rfl, h1, r1⟩ := trodAll_cons r0
  obtain ⟨rfl, rfl, rfl⟩ := trodAll_nil r1
  obtain rfl : args = #[v0, v1] := by cases args; simp_all
  obtain ⟨rfl, rfl⟩ := trodVars_none hV
  have k0 := h0
  have lt0 : ∀ x ∈ p0, x.block < W.heap.size := by obtain ⟨m, hm⟩ := k0; exact DataW.trod_lt m _ _ _ hm
  obtain ⟨ao0, l0, cap0, rfl, w0⟩ := ops_open (hval 0 22 v0 rfl rfl) h0
  obtain ⟨a1, rfl, rfl, rfl, w1⟩ := open_int Tryz.underlying3 (hval 1 3 v1 rfl rfl) h1
  clear hA0 hval0
  refine (walk ao0 cap0 l0 a1 W w0 (i64_of w1) (glob_keep hsh)).mono fun e W' ⟨he, bel⟩ => ?_
  subst he
  exact ⟨_, rfl, _, _, _, [], _, [], hW', trodAll_mk1 (shut_bool Tryz.underlying4 _), (trodAll_cons_mk (Below.trod laidOut (by kernel_rfl) (of_decide_eq_true (by kernel_rfl)) k0 bel lt0) (trodAll_cons_mk (shut_int Tryz.underlying3 w1) trodAll_mk0)), rfl, bel.frame _, fun h => by cases h⟩

theorem over : Rows.procFullRow.holds Tryz.pinned (OpenSpec.ofChange Rows.procFullSpec) :=
  OpenClaim.holds_of_wide 6 Tryz.f6 rfl rfl rfl rfl rfl rfl rfl ⟨rfl, rfl, rfl, rfl, rfl⟩ rfl rfl rfl rfl rfl (by kernel_rfl) Tryz.func6 (by kernel_rfl)
    (of_decide_eq_true (by kernel_rfl)) (by unfold Func.isWrapper; first | (rw [if_pos (by decide +kernel)]; kernel_rfl) | (rw [if_neg (by decide +kernel)]; exact ⟨rfl, rfl⟩))
    (fun os started H enc _ => lifted os started H enc)

theorem proved : Rows.ProcFullCardSaid :=
  Claim7.holds_tied_plain_at .later [] [.data, .pinned] true (true, "a035c5781683d6981f330a25f830d252f3d8558a1223b6fdcc43f87aa68114b7") false over (fun _ h => by cases h) (by kernel_rfl) (fun _ h => by cases h) procFull_row_tie rfl ⟨rfl, rfl⟩ (by kernel_rfl) rfl
    (fun f fn hf hfn => by
      obtain rfl : f = 6 := Option.some.inj ((show Tryz.prog.funcNamed "whelk/whelklaw09.ProcFull" = some 6 by kernel_rfl).symm.trans hf) |>.symm
      obtain rfl : fn = Tryz.f6 := (Option.some.inj (Tryz.func6.symm.trans hfn)).symm
      exact ⟨by kernel_rfl, fun j t ht => by
        rw [Tryz.params6] at ht
        have hm : t ∈ [22, 3] := by simpa using Array.mem_of_getElem? ht
        have hall : ([22, 3].all fun u => !Tryz.prog.wantsStandIn u) = true := by kernel_rfl
        exact (show Tryz.prog.wantsStandIn t = false by simpa using List.all_eq_true.1 hall t hm)⟩)
    (by kernel_rfl)
#print axioms proved
end Go.Proofs.YteienbdbhnikbaaGreatDoor.procFull

