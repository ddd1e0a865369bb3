/- IndexFunc, ContainsFunc, given, Args, SetArgs, Shift, Cursor, SetCursor walked. -/
import Derived.Test.YtlmjidandjemjaaGreatDoorStTg
namespace Go.Proofs.YtlmjidandjemjaaGreatDoor.State
open Go.RowKit Go.Proofs.YtlmjidandjemjaaGreatDoor Go.Proofs.YtlmjidandjemjaaGreatDoor.Hp Go.Proofs.YtlmjidandjemjaaGreatDoor.Undo
set_option linter.unusedVariables false
attribute [local go_sem] Oper.semAt_some

abbrev bigV : Value := .func (.func 41) #[] #[]
def bigB (l : List ByteArray) : Bool := l.any fun x => decide (4096 < x.size)
def IxRel (l : List ByteArray) (w : World) (g : Nat) (v5 v8 : Value) (wr : World) : Prop :=
  ∃ i : Nat, v8 = .int .i64 (i : Int) ∧ i + g = l.length ∧ bigB (l.drop i) = bigB l ∧ w = wr
set_option maxRecDepth 100000 in
set_option maxHeartbeats 4000000 in
theorem indexf_calls (l : List ByteArray) (p : Option Addr) (cap : Nat) (w : World) (hr : StrsAt w p l) (hl : l.length ≤ 1000000) :
    Calls Tryz.prog 103 #[.slice p l.length cap, bigV] w fun e w' => (∃ ix : Int, e = .returned (.int .i64 ix) ∧ decide (0 ≤ ix) = bigB l) ∧ w = w' := by
  obtain ⟨r, hrr⟩ : ∃ r, r = bigB l := ⟨_, rfl⟩
  rw [← hrr]
  have HR := Lib.hid hrr
  have Hl := Lib.hid hl
  have HA := Lib.hid hr
  clear hrr hl hr
  go_enter Tryz.func103, Tryz.ntmps103
  go_wp2_with fail
  go_loopg [5, 8] (l.length) (IxRel l w)
  case atStart => exact ⟨0, rfl, by omega, by rw [List.drop_zero], rfl⟩
  case round =>
    obtain ⟨i, rfl, hg, hall, rfl⟩ := hrel
    rw [← HR.out] at hall
    have hlI := Hl.out
    by_cases hlt : i < l.length
    · have hltI : (i : Int) < l.length := by omega
      have hi0 : (0 : Int) ≤ i := by omega
      rcases HA.out with he | ⟨b, o, rfl, hc⟩
      · rw [he] at hlt; exact absurd hlt (Nat.not_lt_zero _)
      have c := hc i hlt
      rw [List.drop_eq_getElem_cons hlt] at hall
      have hb : (decide (4096 < l[i].size) || bigB (l.drop (i + 1))) = r := hall
      obtain ⟨x, hx⟩ : ∃ x, x = l[i] := ⟨_, rfl⟩
      rw [← hx] at c hb
      have HX := Lib.hid (fun w => big_calls x w)
      cases hbx : decide (4096 < x.size) with
      | true =>
        rw [hbx] at HX hb
        rw [Bool.true_or] at hb
        subst hb
        clear hbx hx hall hc HR
        go_wp2_with fail
        refine (HX.out _).mono ?_
        rintro e w1 ⟨rfl, rfl⟩
        go_wp2_with fail
        go_ret
        exact ⟨⟨_, rfl, decide_eq_true hi0⟩, rfl⟩
      | false =>
        rw [hbx] at HX hb
        rw [Bool.false_or] at hb
        have Hb := Lib.hid hb
        clear hbx hx hall hc hb
        go_wp2_with fail
        refine (HX.out _).mono ?_
        rintro e w1 ⟨rfl, rfl⟩
        go_wp2_with fail
        go_roundg (gk - 1)
        case rel => exact ⟨i + 1, by simp, by omega, by rw [Hb.out, HR.out], rfl⟩
        case measure => omega
    · have hge : i = l.length := by omega
      subst hge
      rw [List.drop_length] at hall
      have hr : r = false := hall.symm
      subst hr
      clear hall HR
      go_wp2_with fail
      go_ret
      exact ⟨⟨_, rfl, rfl⟩, rfl⟩
theorem contains_calls (l : List ByteArray) (p : Option Addr) (cap : Nat) (w : World) (hr : StrsAt w p l) (hl : l.length ≤ 1000000) :
    Calls Tryz.prog 40 #[.slice p l.length cap, bigV] w fun e w' => e = .returned (.bool (bigB l)) ∧ w = w' := by
  have HI := Lib.hid (indexf_calls l p cap w hr hl)
  clear hr hl
  go_enter Tryz.func40, Tryz.ntmps40
  go_wp2_with fail
  refine HI.out.mono ?_
  rintro e w1 ⟨⟨ix, rfl, hix⟩, rfl⟩
  have Hix := Lib.hid hix
  clear hix
  go_wp2_with fail
  go_ret
  exact ⟨by rw [← Hix.out]; rfl, rfl⟩
abbrev gA (g : GC.Giv) : Value := .agg #[.slice g.p g.n g.cap, .int .i64 g.here, .int .i64 g.within]
set_option maxRecDepth 100000 in
set_option maxHeartbeats 4000000 in
theorem given_calls (K : Ctx) (n : Now) (g : GC.Giv) (rws : List Row1) (w : World) (R : Hp) (h : SGt K w n g rws R) :
    Calls Tryz.prog 44 #[pp K.sb] w fun e w' => e = .returned (.agg #[.slice g.p g.n g.cap, .int .i64 g.here, .int .i64 g.within]) ∧ Below w.heap.size w w' := by
  have H1 := h.alloc (GC.gO ⟨none, 0, 0, 0, 0, []⟩)
  obtain ⟨c0, c1, c2, c3, c4, c5, c6, cz⟩ := H1.shut.cells
  have HG := Lib.hid H1.cget
  have H1 := Lib.hid H1
  clear h
  go_enter Tryz.func44, Tryz.ntmps44
  go_wp2_with fail
  refine HG.out.mono ?_
  rintro e w1 ⟨rfl, hB⟩
  have HZ := (H1.out.below hB).shut.rest
  have hB2 := below_new hB
  have hg := HZ.get
  have f0 : ∀ i, w1.frozen? ⟨w.heap.size, i, none⟩ = false := fun i => free_at hg i
  obtain ⟨z0, z1, z2⟩ := GC.g_cells HZ
  have HZ2 := ((HZ.set (i := 0) (.slice g.p g.n g.cap)).set (i := 1) (.int .i64 g.here)).set (i := 2) (.int .i64 g.within)
  have hB3 := ((hB2.setCell (Nat.le_refl _) (p := ⟨w.heap.size, 0, none⟩) (.slice g.p g.n g.cap)).setCell (Nat.le_refl _) (p := ⟨w.heap.size, 1, none⟩) (.int .i64 g.here)).setCell (Nat.le_refl _) (p := ⟨w.heap.size, 2, none⟩) (.int .i64 g.within)
  obtain ⟨r0, r1, r2⟩ := GC.g_cells (x := g) HZ2
  have HB3 := Lib.hid hB3
  clear hg HZ HG H1 HZ2 hB hB2 hB3 c0 c1 c2 c3 c4 c5 c6 cz
  go_wp2_with fail
  refine bodyPost_ret (v := .agg #[.slice g.p g.n g.cap, .int .i64 g.here, .int .i64 g.within]) (by simp [results, Tryz.results44, go_sem, r0, r1, r2]) rfl ⟨rfl, HB3.out⟩
theorem field_l (a : Value) (b c : Int) (W : World) : (Instr.field 83 (.agg #[a, .int .i64 b, .int .i64 c]) 0).run Tryz.prog W = .ok a W := by kernel_rfl
def ArgsSays (K : Ctx) (n : Now) (R : Hp) (e : Ending) (w' : World) : Prop := ∃ p cap, e = .returned (.slice p n.s.l.length cap) ∧ SAt K w' n (arr 9 1 p n.s.l.length cap (n.s.l.map sv) * R)
set_option maxRecDepth 100000 in
set_option maxHeartbeats 4000000 in
theorem Args_calls (K : Ctx) (n : Now) (w : World) (R : Hp) (hl : n.s.l.length ≤ 1000000) (h : SAt K w n R) :
    Calls Tryz.prog 11 #[pp K.sb] w fun e w' => ArgsSays K n R e w' ∧ Below w.heap.size w w' := by
  obtain ⟨g, rws, hG⟩ := h.args
  have HV := Lib.hid (given_calls K n g rws w R hG)
  obtain ⟨⟨hn, hcap, _⟩, hgl, _⟩ := hG.facts
  have Hgl := Lib.hid hgl
  have H0 := Lib.hid hG
  have hfd := field_l
  have hcl : ∀ W : World, Below w.heap.size w W → Calls Tryz.prog 43 #[.slice g.p g.n g.cap] W fun e w' => (∃ p' cap', e = .returned (.slice p' g.l.length cap') ∧ ∀ S, Sat W S → Sat w' (arr 9 1 p' g.l.length cap' (g.l.map sv) * S)) ∧ Below W.heap.size W w' := fun W hW => by
    rw [hn]
    exact clone_calls g.l g.p g.cap W ((hG.below hW).reads) (by rw [hgl]; exact hl)
  have HC := Lib.hid hcl
  clear h hG hn hcap hgl hcl hl
  go_enter Tryz.func11, Tryz.ntmps11
  go_wp2_with fail
  refine HV.out.mono ?_
  rintro e w1 ⟨rfl, hB⟩
  have HC1 := Lib.hid (HC.out w1 hB)
  have S1 := Lib.hid (H0.out.below hB).shut
  have HB1 := Lib.hid hB
  clear hB HC H0 HV
  go_wp2_with fail
  refine HC1.out.mono ?_
  rintro e w2 ⟨⟨p', cap', rfl, hA⟩, hB2⟩
  have S2 : SAt K w2 n (arr 9 1 p' g.l.length cap' (g.l.map sv) * R) := by
    obtain ⟨X, hX1, hX2⟩ := S1.out.frame
    exact hX2 _ _ ((hA _ hX1).perm (by ac_rfl))
  have S2 := Lib.hid S2
  have HB2 := Lib.hid (HB1.out.trans (hB2.mono HB1.out.size))
  clear hA hB2 HC1 S1
  go_wp2_with fail
  go_ret
  refine ⟨⟨p', cap', ?_, ?_⟩, HB2.out⟩
  · rw [← Hgl.out]; rfl
  · rw [← Hgl.out]; exact S2.out
theorem SGt.cloned {K : Ctx} {w w' : World} {n : Now} {g : GC.Giv} {rws : List Row1} {R : Hp} {p' : Option Addr} {cap' : Nat} {l : List ByteArray} (h : SGt K w n g rws R) (hA : ∀ S, Sat w S → Sat w' (arr 9 1 p' l.length cap' (l.map sv) * S)) :
    SGt K w' n g (rws ++ [⟨p', cap', l⟩]) R ∧ GOk (rws ++ [⟨p', cap', l⟩]) ⟨p', l.length, cap', 1, 0, l⟩ := by
  obtain ⟨X, hX1, hX2⟩ := h.frame
  have h1 := hA _ hX1
  refine ⟨SGt.row (hX2 _ _ (h1.perm (show _ = X * (all row1 rws * (row1 ⟨p', cap', l⟩ * R)) by unfold row1; ac_rfl))), rfl, h1.arr_len.2.1, ?_⟩
  cases l with
  | nil => exact .inl rfl
  | cons x t =>
    have hl := h1.arr_len
    obtain ⟨b, o, rfl⟩ := h1.arr_addr (by simp at hl; omega)
    exact .inr ⟨⟨some ⟨b, o, none⟩, cap', x :: t⟩, by simp, b, o, 0, rfl, rfl, rfl⟩
set_option maxRecDepth 100000 in
set_option maxHeartbeats 8000000 in
theorem SetArgs_calls (K : Ctx) (n : Now) (l : List ByteArray) (p : Option Addr) (cap : Nat) (w : World) (R : Hp) (hl : l.length ≤ 1000000) (hp : StrsAt w p l) (hN : n.N ≤ 1000000) (hms : n.ms.length ≤ 1000000) (h : SAt K w n R) :
    Calls Tryz.prog 10 #[pp K.sb, .slice p l.length cap] w (Lays K w R (n.setG K.most l)) := by
  obtain ⟨r, hr⟩ : ∃ r, r = n.setG K.most l := ⟨_, rfl⟩
  rw [← hr]
  unfold Now.setG at hr
  obtain ⟨c0, c1, c2, c3, c4, c5, c6, cz⟩ := h.cells
  have H0 := Lib.hid h
  by_cases hl1 : 1000 < l.length
  · rw [if_pos hl1] at hr
    subst hr
    have hlI : (1000 : Int) < l.length := by omega
    clear h hl hp hl1 hN hms
    go_enter Tryz.func10, Tryz.ntmps10
    go_wp2_with fail
    go_ret
    exact Lays.same H0.out (Below.refl 0 w)
  · rw [if_neg hl1] at hr
    have hlI : (l.length : Int) ≤ 1000 := by omega
    have HCo := contains_calls l p cap w hp hl
    cases hb : bigB l with
    | true =>
      rw [if_pos (show (l.any fun x => decide (4096 < x.size)) = true from hb)] at hr
      subst hr
      rw [hb] at HCo
      have HCo := Lib.hid HCo
      clear h hl hp hl1 hb hN hms
      go_enter Tryz.func10, Tryz.ntmps10
      go_wp2_with fail
      refine HCo.out.mono ?_
      rintro e w1 ⟨rfl, rfl⟩
      go_wp2_with fail
      go_ret
      exact Lays.same H0.out (Below.refl 0 w)
    | false =>
      rw [if_neg (show ¬ (l.any fun x => decide (4096 < x.size)) = true by rw [show (l.any fun x => decide (4096 < x.size)) = false from hb]; decide)] at hr
      subst hr
      rw [hb] at HCo
      have HCo := Lib.hid HCo
      have hpd : StrsAt w.drew p l := hp
      have HCl := Lib.hid (clone_calls l p cap w.drew hpd hl)
      obtain ⟨g, rws, hG⟩ := h.drew.args
      have HG := Lib.hid hG
      have HF := Lib.hid (And.intro hN hms)
      clear h hl hp hl1 hb hpd hG hN hms H0
      go_enter Tryz.func10, Tryz.ntmps10
      go_wp2_with fail
      refine HCo.out.mono ?_
      rintro e w1 ⟨rfl, rfl⟩
      go_wp2_with fail
      refine Go.Proofs.YtlmjidandjemjaaGreatDoor.region_plan (S := (fun w' => w'.cell? ⟨K.sb, 5, none⟩ = some (pp K.P.gb))) [(0, true), (1, true), (2, true), (3, true), (4, true), (5, false), (6, true), (7, false), (8, true)] (by kernel_rfl) (by kernel_rfl) (by kernel_rfl) ?_ ?_
      · ((try dsimp only); (first | done | (first | exact c5 | exact hz5 | exact hy5)))
      simp only [Go.Proofs.YtlmjidandjemjaaGreatDoor.planOps, List.map_cons, List.map_nil, List.getElem?_toArray, List.getElem?_cons_zero, List.getElem?_cons_succ]
      repeat (first
        | ((refine Go.Proofs.YtlmjidandjemjaaGreatDoor.plan_yes (v := ?_) (by rfl) ?_ ?_); rotate_left; (focus (intro w hSw; (try dsimp only at hSw); go_simp; try (with_reducible rfl))); (try simp only [Act.put, List.setIfInBounds_toArray, List.set_cons_zero, List.set_cons_succ]))
        | ((refine Go.Proofs.YtlmjidandjemjaaGreatDoor.plan_no (by rfl) ?_); (try simp only [Act.put, List.setIfInBounds_toArray, List.set_cons_zero, List.set_cons_succ]))
        | ((refine Go.Proofs.YtlmjidandjemjaaGreatDoor.plan_step (fun K hK => ?_)); (first | (first | (go_at_call 43; refine HCl.out.mono ?_; rintro e w2 ⟨⟨p', cap', rfl, hA⟩, hB2⟩; obtain ⟨hS2, hok⟩ := HG.out.cloned hA; obtain ⟨-, -, -, -, -, hz5, -, -⟩ := hS2.shut.cells; have HSt := Lib.hid (SGt.cset _ w2 n g _ R ⟨p', l.length, cap', 1, 0, l⟩ hok HF.out.1 HF.out.2 hS2); have HB2 := Lib.hid hB2; clear hA hB2 hS2 hok) | (go_at_call 42; refine HSt.out.mono ?_; rintro e w4 ⟨⟨rfl, hS⟩, hR⟩; obtain ⟨-, -, -, -, -, hy5, -, -⟩ := hS.cells; have HS := Lib.hid hS; have HRn := Lib.hid hR; clear hS hR)) | (go_simp; (first | (go_at_call 43; refine HCl.out.mono ?_; rintro e w2 ⟨⟨p', cap', rfl, hA⟩, hB2⟩; obtain ⟨hS2, hok⟩ := HG.out.cloned hA; obtain ⟨-, -, -, -, -, hz5, -, -⟩ := hS2.shut.cells; have HSt := Lib.hid (SGt.cset _ w2 n g _ R ⟨p', l.length, cap', 1, 0, l⟩ hok HF.out.1 HF.out.2 hS2); have HB2 := Lib.hid hB2; clear hA hB2 hS2 hok) | (go_at_call 42; refine HSt.out.mono ?_; rintro e w4 ⟨⟨rfl, hS⟩, hR⟩; obtain ⟨-, -, -, -, -, hy5, -, -⟩ := hS.cells; have HS := Lib.hid hS; have HRn := Lib.hid hR; clear hS hR)); (try go_wp2_with fail)) | go_simp); (refine hK.out _ _ ?_ (fun hHeld => ?_)); (focus ((try dsimp only); (first | done | (first | exact c5 | exact hz5 | exact hy5)))); clear hK K; (try simp only [Act.put, List.setIfInBounds_toArray, List.set_cons_zero, List.set_cons_succ])))
      refine Go.Proofs.YtlmjidandjemjaaGreatDoor.plan_done ?_
      go_wp2_with fail
      go_ret
      exact ⟨⟨rfl, HS.out⟩, Below.trans (Below.trans (Below.drew (Below.refl 0 w)) (HB2.out.mono (Nat.zero_le _))) HRn.out⟩
end Go.Proofs.YtlmjidandjemjaaGreatDoor.State
