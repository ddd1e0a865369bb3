/- HandlesPlays, part 24 of 29: the texts SvN SvO, joined by a program. -/
import Derived.Test.YtlmjidandjemjaaGreatDoorSp23
namespace Go.Proofs.YtlmjidandjemjaaGreatDoor.State
open Go.RowKit Go.Proofs.YtlmjidandjemjaaGreatDoor Go.Proofs.YtlmjidandjemjaaGreatDoor.Hp Go.Proofs.YtlmjidandjemjaaGreatDoor.Undo
set_option linter.unusedVariables false
attribute [local go_sem] Oper.semAt_some

set_option maxRecDepth 100000 in
theorem rcopy_calls (b : Nat) (s : Sr) (R : Hp) (w : World) (h : Sat w (pts b (srO s) * R)) :
    Calls Tryz.prog 88 #[pp b] w fun e w' => e = .returned (pp w.heap.size) ∧ w.alloc (srO s) = w' := by
  obtain ⟨s0, s1, s2, s3, s4, s5, s6, s7, s8⟩ := sr_cells h
  clear h
  go_enter Tryz.func88, Tryz.ntmps88
  go_wp2_with fail
  go_ret
  exact ⟨rfl, rfl⟩
/-- A state that is new. -/
def sr0 : Sr := ⟨none, 0, [], none, 0, [], none, 0, [], none, 0, [], ⟨#[]⟩, none, 0, [], 1, 0, 0⟩
def pst0 : Pst := ⟨fun _ => none, fun _ => none, fun _ => none, fun _ => none, ⟨#[]⟩, [], 1, 0⟩
theorem pairs_nil {α : Type} : PairsA (fun _ => none) ([] : List (Pa α)) := ⟨⟨List.Pairwise.nil, fun s => ⟨fun h => (by cases h), fun h => (by cases h)⟩⟩, fun x h => (by cases h)⟩
theorem sr0_good : SrG Hp.emp pst0 0 0 sr0 :=
  ⟨⟨pairs_nil, bag_nil, pairs_nil, pairs_nil, rfl, rfl, rfl, rfl, rfl, fun k v h => (by cases h)⟩, ⟨RdR.nil, RdR.nil, RdR.nil, RdR.nil, RdR.nil⟩, ⟨Nat.le_refl _, Nat.le_refl _, Nat.le_refl _, Nat.le_refl _, by omega⟩⟩
set_option maxRecDepth 100000 in
theorem rnew_calls (w : World) : Calls Tryz.prog 29 #[] w fun e w' => e = .returned (pp w.heap.size) ∧ w.alloc (srO sr0) = w' := by
  rw [show srO sr0 = .cells #[.slice none 0 0, .slice none 0 0, .slice none 0 0, .slice none 0 0, .string ⟨#[]⟩, .slice none 0 0, .int .i64 1, .int .i64 0, .int .i64 0] 122 (0, 0) from rfl]
  go_enter Tryz.func29, Tryz.ntmps29
  go_wp2_with fail
  go_ret
  exact ⟨rfl, rfl⟩
theorem stepStr {w : World} {R : Hp} {ops : Array Oper} {o : Oper} {a : Act} {K : Act → World → Prop} {Q : Exit → Act → World → Prop} {E : Prop} (hgd : o.guard = none) (s x : Operand)
    (ho : o.op = .call { callee := .builtin .append, args := #[s, x], argTypes := #[22, 22] })
    (p : Option Addr) (n cap : Nat) (xs : List Value) (hp : a.eval s = .slice p n cap) (b : Nat) (hvx : a.eval x = .slice (some ⟨b, 0, none⟩) 1 1) (h : Sat w (arr 9 1 p n cap xs * R)) (v : Value) (hb : w.heap[b]? = some (.cells #[v] 9 (0, 0))) (h0 : v.oneCell' = true) (hn : n ≤ 1000000000)
    (hk : ∀ p' cap' w', Sat w' (arr 9 1 p' (n + 1) cap' (xs ++ [v]) * R) → Ran w w' → K (a.put o.dst (.slice p' (n + 1) cap')) w') :
    if Region.wanted o (yielded ops a.tmps) = true then Oper.wp Tryz.prog o a w K Q else E := by
  obtain ⟨i0, hi, hz0, hz1, hz2⟩ := info_parts infoStr
  refine step_append_arr hgd s x _ _ ho 9 i0 _ 1 16 Tryz.underlying22 hi hz0 hz1 hz2 rfl p n cap xs hp h _ hvx 1 [v] (Src.ofSlice w Tryz.underlying22 ⟨b, 0, none⟩ 1 1 [v] (by rw [hz1]; rfl) ?_ (by simp [h0])) (by omega) (by unfold maxLen; omega) (fun p' cap' w' h1 h2 _ => hk p' cap' w' h1 h2)
  intro j u hj
  rw [Addr.add_lit, Nat.zero_add, cell_at hb, ← hj]
  simp
set_option maxRecDepth 100000 in
set_option maxHeartbeats 4000000 in
theorem renviron_calls (b : Nat) (s : Sr) (p : Pst) (q : Int) (c : Nat) (A F : Hp) (w : World) (hk : ∀ x ∈ s.V, x.1.size ≤ 1000000 ∧ x.2.val.size ≤ 1000000) (hG : SrG A p q c s) (h : Sat w (pts b (srO s) * (A * F))) :
    Calls Tryz.prog 89 #[pp b] w fun e w' => (∃ q2 qc2, e = .returned (.slice q2 (envL p (s.V.map Prod.fst)).length qc2) ∧ Sat w' (arr 9 1 q2 (envL p (s.V.map Prod.fst)).length qc2 ((envL p (s.V.map Prod.fst)).map sv) * (pts b (srO s) * (A * F)))) ∧ Ran w w' := by
  have hs := hG.sm.V
  have hst := hG.sm.top
  have hcl := hG.ok.V.len
  have hct := hG.ok.V.top
  have hcI : (s.vc : Int) ≤ 9223372036854775807 := by unfold maxLen at hct; omega
  have hclI : (s.V.length : Int) ≤ (s.vc : Int) := by omega
  have hFI : (s.V.length : Int) ≤ 90000 := by omega
  obtain ⟨p1, cap1, L, hp1, hcap1, hL⟩ : ∃ p cap L, p = s.vp ∧ cap = s.vc ∧ L = s.V := ⟨_, _, _, rfl, rfl, rfl⟩
  have HM := Lib.hid (fun (W : World) (X : Hp) (hX : Sat W (X * (pts b (srO s) * (A * F)))) => (by
    obtain ⟨s1, -⟩ := sr_cells (hX.perm (show _ = pts b (srO s) * (X * (A * F)) by ac_rfl))
    rw [← hp1, ← hcap1, ← hL] at s1
    have hR : RdR vrC 5 A p1 cap1 L := by rw [hp1, hcap1, hL]; exact hG.ok.V
    exact ⟨s1, fun i hi => rd_vr hR (hX.perm (show _ = (X * (pts b (srO s) * F)) * A by ac_rfl)) i hi⟩ : W.cell? ⟨b, 0, none⟩ = some (.slice p1 L.length cap1) ∧ ∀ i (hi : i < L.length), _))
  have HV := Lib.hid (fun (i : Nat) (hi : i < L.length) => (by
    have hm : L[i] ∈ s.V := by rw [← hL]; exact List.getElem_mem hi
    have h1 := hG.is.V.2 _ hm
    have h2 := hk _ hm
    exact ⟨by unfold Pst.var; rw [h1]; rfl, h2.1, h2.2⟩ : p.var L[i].1 = L[i].2 ∧ L[i].1.size ≤ 1000000 ∧ L[i].2.val.size ≤ 1000000))
  rw [← hL] at hclI hFI
  rw [← hcap1] at hcI hclI
  have hLn : L.length ≤ 90000 := by omega
  have S1 := Lib.hid h
  obtain ⟨EL, hEL⟩ : ∃ EL : List (Pa VM.T) → List ByteArray, EL = fun l => envL p (l.map Prod.fst) := ⟨_, rfl⟩
  have HEs : ∀ (l : List (Pa VM.T)) (x : Pa VM.T), p.var x.1 = x.2 → EL (l ++ [x]) = EL l ++ (if (x.2.exp && x.2.set) = true then [x.1 ++ eqS ++ x.2.val] else []) := fun l x hx => by
    rw [hEL]
    show envL p ((l ++ [x]).map Prod.fst) = _
    rw [List.map_append]
    show envL p (l.map Prod.fst ++ [x.1]) = _
    rw [envL_snoc]
    congr 1
    show (if ((p.var x.1).exp && (p.var x.1).set) = true then [(x.1 ++ eqS) ++ (p.var x.1).val] else []) = _
    rw [hx]
  have HEl : ∀ (l : List (Pa VM.T)), (EL l).length ≤ l.length := fun l => by
    rw [hEL]
    have := envL_len p (l.map Prod.fst)
    rw [List.length_map] at this
    exact this
  have HE0 : EL [] = [] := by rw [hEL]; rfl
  have HEf : envL p (s.V.map Prod.fst) = EL L := by rw [hEL, hL]
  rw [HEf]
  have HEs := Lib.hid HEs
  have HEl := Lib.hid HEl
  clear hG h hk hs hst hcl hct hp1 hcap1 hL hEL HEf
  go_enter Tryz.func89, Tryz.ntmps89
  go_wp2_with fail
  go_loopg [3, 4] (L.length) (fun (g : Nat) (ov iv : Value) (wr : World) => ∃ (i : Nat) (q : Option Addr) (qc : Nat), i + g = L.length ∧ iv = .int .i64 (i : Int) ∧ ov = .slice q (EL (L.take i)).length qc ∧ Sat wr (arr 9 1 q (EL (L.take i)).length qc ((EL (L.take i)).map sv) * (pts b (srO s) * (A * F))) ∧ Ran w wr)
  case atStart => exact ⟨0, none, 0, by omega, rfl, by rw [List.take_zero, HE0]; rfl, by rw [List.take_zero, HE0]; exact S1.out.nil_arr _ _, Below.refl 0 w⟩
  case round =>
    clear S1 HE0
    obtain ⟨i, q1, qc1, hik, rfl, rfl, HS, HR⟩ := hrel
    have hi0 : (0 : Int) ≤ i := by omega
    obtain ⟨s1, hrec⟩ := HM.out wr _ HS
    by_cases hi : i < L.length
    · obtain ⟨b2, o2, rfl, p0, p1, p2, p3, p4⟩ := hrec i hi
      have hlt : (i : Int) < L.length := by omega
      have htk : L.take (i + 1) = L.take i ++ [L[i]] := List.take_succ_eq_append_getElem hi
      obtain ⟨hvi, hz1, hz2⟩ := HV.out i hi
      have hsn := HEs.out (L.take i) L[i] hvi
      rw [← htk] at hsn
      have hln := HEl.out (L.take i)
      rw [List.length_take] at hln
      have hln2 : (EL (L.take i)).length ≤ 1000000 := by omega
      obtain ⟨z, hz⟩ : ∃ z, z = L[i] := ⟨_, rfl⟩
      have HM2 := Lib.hid (fun (W : World) (X : Hp) (hX : Sat W (X * (pts b (srO s) * (A * F)))) => (by
        obtain ⟨q0, hq⟩ := HM.out W X hX
        obtain ⟨b3, o3, e, n0, n1, -⟩ := hq i hi
        injection e with e
        injection e with e1 e2
        subst e1
        subst e2
        rw [← hz] at n0 n1
        exact ⟨q0, n0, n1⟩ : W.cell? ⟨b, 0, none⟩ = some (.slice (some ⟨b2, o2, none⟩) L.length cap1) ∧ W.cell? ⟨b2, o2 + i * 5, none⟩ = some (.string z.1) ∧ W.cell? ⟨b2, o2 + i * 5 + 1, none⟩ = some (.string z.2.val)))
      rw [← hz] at p0 p1 p2 p3 p4 hsn hz1 hz2
      obtain ⟨zn, zv, z2, z3, z4⟩ := z
      dsimp only at p0 p1 p2 p3 p4 hsn hz1 hz2 HM2
      obtain ⟨out, hout⟩ : ∃ out, out = EL (L.take i) := ⟨_, rfl⟩
      rw [← hout] at HS hsn hln2
      rw [← hout]
      have Hik := Lib.hid hik
      clear hrec
      cases z3 with
      | false =>
        rw [Bool.false_and, if_neg (by decide), List.append_nil] at hsn
        have Hs := Lib.hid (And.intro hsn (And.intro HS HR))
        clear hik hz hsn htk hln HS HR hout p0 p1 p4 HM HM2 hvi
        go_wp2_with fail
        go_roundg (gk - 1)
        case measure => have := Hik.out; omega
        case rel => exact ⟨i + 1, q1, qc1, by have := Hik.out; omega, rfl, by rw [Hs.out.1], by rw [Hs.out.1]; exact Hs.out.2.1, Hs.out.2.2⟩
      | true =>
        cases z2 with
        | false =>
          rw [Bool.and_false, if_neg (by decide), List.append_nil] at hsn
          have Hs := Lib.hid (And.intro hsn (And.intro HS HR))
          clear hik hz hsn htk hln HS HR hout p0 p1 p4 HM HM2 hvi
          go_wp2_with fail
          go_roundg (gk - 1)
          case measure => have := Hik.out; omega
          case rel => exact ⟨i + 1, q1, qc1, by have := Hik.out; omega, rfl, by rw [Hs.out.1], by rw [Hs.out.1]; exact Hs.out.2.1, Hs.out.2.2⟩
        | true =>
          rw [Bool.and_true, if_pos rfl] at hsn
          have Hs := Lib.hid hsn
          obtain ⟨xb, hxb⟩ : ∃ b, b = wr.drew.heap.size := ⟨_, rfl⟩
          have HA := HS.drew.old (.cells #[.string (zn ++ eqS ++ zv)] 9 (0, 0))
          have HX := heap_alloc_new wr.drew (.cells #[.string (zn ++ eqS ++ zv)] 9 (0, 0))
          have RA := Ran.new (Ran.drewN HR 1) (.cells #[.string (zn ++ eqS ++ zv)] 9 (0, 0))
          obtain ⟨a1, b0, b1⟩ := HM2.out _ _ HA
          have HA := Lib.hid HA
          have HX := Lib.hid HX
          have RA := Lib.hid RA
          have hcs1 : ¬ 9223372036854775807 < zn.size + 1 := by omega
          have hcs2 : ¬ 9223372036854775807 < zn.size + 1 + zv.size := by omega
          have hcs3 : ¬ 9223372036854775807 < (zn ++ (⟨#[61]⟩ : ByteArray)).size + zv.size := by rw [ByteArray.size_append]; exact hcs2
          clear hik hz hsn htk hln HS HR hout HM hvi
          go_upto_region 6 with fail
          refine region_plan (S := (fun w' => w'.cell? ⟨b, 0, none⟩ = some (.slice (some ⟨b2, o2, none⟩) L.length cap1) ∧ w'.cell? ⟨b2, o2 + i * 5, none⟩ = some (.string zn) ∧ w'.cell? ⟨b2, o2 + i * 5 + 1, none⟩ = some (.string zv))) [(0, true), (1, true), (2, true), (3, true), (4, true), (5, true), (6, true), (7, true), (8, true), (9, true), (10, true), (11, true), (12, true), (13, true), (14, true), (15, true), (16, true), (17, true), (18, true), (19, false), (20, false), (21, true)] (by kernel_rfl) (by kernel_rfl) (by kernel_rfl) ?_ ?_
          · ((try dsimp only); (first | done | (first | exact ⟨s1, p0, p1⟩ | exact ⟨a1, b0, b1⟩ | exact ⟨c1, d0, d1⟩)))
          simp only [planOps, List.map_cons, List.map_nil, List.getElem?_toArray, List.getElem?_cons_zero, List.getElem?_cons_succ]
          repeat (first
            | ((refine plan_yes (v := ?_) (by rfl) ?_ ?_); rotate_left; (focus (intro w hSw; (try dsimp only at hSw); go_simp; try (with_reducible rfl))); (try simp only [Act.put, List.setIfInBounds_toArray, List.set_cons_zero, List.set_cons_succ]))
            | ((refine plan_no (by rfl) ?_); (try simp only [Act.put, List.setIfInBounds_toArray, List.set_cons_zero, List.set_cons_succ]))
            | ((refine plan_step (fun K hK => ?_)); (first | ((refine stepStr rfl _ _ rfl q1 out.length qc1 (out.map sv) rfl wr.drew.heap.size rfl HA.out (.string (zn ++ eqS ++ zv)) HX.out rfl (by omega) ?_; intro q2 qc2 w6 T6 R6; obtain ⟨c1, d0, d1⟩ := HM2.out w6 _ T6; have T6 := Lib.hid (And.intro T6 (Below.trans RA.out R6)); clear R6)) | (go_simp; ((refine stepStr rfl _ _ rfl q1 out.length qc1 (out.map sv) rfl wr.drew.heap.size rfl HA.out (.string (zn ++ eqS ++ zv)) HX.out rfl (by omega) ?_; intro q2 qc2 w6 T6 R6; obtain ⟨c1, d0, d1⟩ := HM2.out w6 _ T6; have T6 := Lib.hid (And.intro T6 (Below.trans RA.out R6)); clear R6)); (try go_wp2_with fail)) | go_simp); (refine hK.out _ _ ?_ (fun hHeld => ?_)); (focus ((try dsimp only); (first | done | (first | exact ⟨s1, p0, p1⟩ | exact ⟨a1, b0, b1⟩ | exact ⟨c1, d0, d1⟩)))); clear hK K; (try simp only [Act.put, List.setIfInBounds_toArray, List.set_cons_zero, List.set_cons_succ])))
          refine plan_done ?_
          go_wp2_with fail
          go_roundg (gk - 1)
          case measure => have := Hik.out; omega
          case rel => exact ⟨i + 1, q2, qc2, by have := Hik.out; omega, rfl, by rw [Hs.out, List.length_append]; rfl, by rw [Hs.out, List.length_append, List.map_append]; exact T6.out.1, T6.out.2⟩
    · have hge : ¬ ((i : Int) < L.length) := by omega
      have htl : L.take i = L := List.take_of_length_le (by omega)
      rw [htl] at HS
      rw [htl]
      obtain ⟨out, hout⟩ : ∃ out, out = EL L := ⟨_, rfl⟩
      rw [← hout] at HS
      rw [← hout]
      have HE2 := Lib.hid (And.intro HS HR)
      have Ho := Lib.hid hout
      clear hik htl hi hrec HM HS HR hout
      go_wp2_with fail
      go_ret
      exact ⟨⟨q1, qc1, by rw [← Ho.out]; rfl, by rw [← Ho.out]; exact HE2.out.1⟩, HE2.out.2⟩
end Go.Proofs.YtlmjidandjemjaaGreatDoor.State

namespace Go.Proofs.YtlmjidandjemjaaGreatDoor.State
open Go.RowKit Go.Proofs.YtlmjidandjemjaaGreatDoor Go.Proofs.YtlmjidandjemjaaGreatDoor.Hp Go.Proofs.YtlmjidandjemjaaGreatDoor.Undo
set_option linter.unusedVariables false

/-- A call of the program, with what its notes and copies become, and the document's. -/
def Keeps (n : Now) (d : Int × Pst) (r : Int × Now) : Prop := r.1 = d.1 ∧ ∀ x x2 was, Cps n x was → SrIs d.2 n.q x2 → Cps r.2 x2 was
theorem Cps.swap {n : Now} {x x2 : Sr} {was : List Sr} (h : Cps n x was) (h2 : SrIs n.s n.q x2) : Cps n x2 was := ⟨h2, h.len, h.was⟩
/-- There is room, and the marks are in order. -/
structure Room (most : Int) (n : Now) : Prop where
  m : Marked n.hist.length n.ms.reverse
  r : (n.hist.length : Int) + 10 < most
theorem keeps_same (n : Now) (e : Int) : Keeps n (e, n.s) (e, n) := ⟨rfl, fun x x2 was h h2 => h.swap h2⟩
theorem tE_room {most : Int} {n : Now} (hr : (n.hist.length : Int) < most) : tE most n.hist n.ms = 0 := by
  unfold tE
  by_cases c : n.ms = []
  · rw [if_pos c]
  · rw [if_neg c, if_pos hr]
theorem keeps_put {most : Int} {n : Now} (h : Room most n) (s2 : Pst) : Keeps n (0, s2) (n.put most s2) :=
  ⟨tE_room (by have := h.r; omega), fun x x2 was hc h2 => (hc.put h.m (by have := h.r; omega) h2).2⟩
theorem delM_none {α : Type} {M : ByteArray → Option α} {k : ByteArray} (h : M k = none) : delM M k = M := by
  funext s
  unfold delM
  by_cases c : s = k
  · rw [if_pos c, c, h]
  · rw [if_neg c]
theorem keeps_delV {most : Int} {n : Now} (h : Room most n) (k : ByteArray) : Keeps n (0, { n.s with V := delM n.s.V k }) (n.delV most k) := by
  unfold Now.delV
  by_cases c : (n.s.V k).isSome = false
  · rw [if_pos c]
    have : n.s.V k = none := by
      cases hx : n.s.V k with
      | none => rfl
      | some v => rw [hx] at c; cases c
    rw [delM_none this]
    exact keeps_same n 0
  · rw [if_neg c]
    exact keeps_put h _
theorem keeps_delT {most : Int} {n : Now} (h : Room most n) (k : ByteArray) : Keeps n (0, { n.s with T := delM n.s.T k }) (n.delT most k) := by
  unfold Now.delT
  by_cases c : (n.s.T k).isSome = false
  · rw [if_pos c]
    have : n.s.T k = none := by
      cases hx : n.s.T k with
      | none => rfl
      | some v => rw [hx] at c; cases c
    rw [delM_none this]
    exact keeps_same n 0
  · rw [if_neg c]
    exact keeps_put h _
theorem dPut_some {p : Pst} {k : ByteArray} {v : VM.T} (h : nilR v = false) : dPut p k v = { p with V := putM p.V k v } := by
  unfold dPut
  rw [if_neg (by rw [h]; decide)]
theorem dPut_nil {p : Pst} {k : ByteArray} {v : VM.T} (h : nilR v = true) : dPut p k v = { p with V := delM p.V k } := by
  unfold dPut
  rw [if_pos h]
theorem keeps_set {most : Int} {n : Now} (h : Room most n) (k v : ByteArray) : Keeps n (dSet n.s k v) (n.setP most k v) := by
  unfold dSet Now.setP
  by_cases c1 : isName k = false
  · rw [if_pos c1, if_pos c1]; exact keeps_same n 16
  rw [if_neg c1, if_neg c1]
  by_cases c2 : 4096 < v.size
  · rw [if_pos c2, if_pos c2]; exact keeps_same n 21
  rw [if_neg c2, if_neg c2]
  by_cases c3 : (n.s.var k).fix = true
  · rw [if_pos c3, if_pos c3]; exact keeps_same n 26
  rw [if_neg c3, if_neg c3, dPut_some rfl]
  exact keeps_put h _
theorem keeps_unset {most : Int} {n : Now} (h : Room most n) (k : ByteArray) : Keeps n (dUnset n.s k) (n.unsetP most k) := by
  unfold dUnset Now.unsetP
  by_cases c1 : isName k = false
  · rw [if_pos c1, if_pos c1]; exact keeps_same n 16
  rw [if_neg c1, if_neg c1]
  by_cases c3 : (n.s.var k).fix = true
  · rw [if_pos c3, if_pos c3]; exact keeps_same n 26
  rw [if_neg c3, if_neg c3, dPut_nil rfl]
  exact keeps_delV h k
/-- Variables as the calls leave them. -/
def VarsOk (s : Pst) : Prop := ∀ k v, s.V k = some v → (v.set = false → v.val = ⟨#[]⟩) ∧ (v.set || v.exp || v.fix) = true
theorem nilVar_eq {v : VM.T} (h : VarOk v) : nilVar v = nilR v := by
  unfold nilVar nilR
  cases hs : v.set with
  | true => simp
  | false =>
    have : v.val.size = 0 := by rw [h hs]; rfl
    rw [decide_eq_true this]
    simp
theorem varsOk_var {s : Pst} (h : VarsOk s) (k : ByteArray) : VarOk (s.var k) := by
  intro hs
  unfold Pst.var at hs ⊢
  cases hv : s.V k with
  | none => rfl
  | some v => rw [hv] at hs; exact (h k v hv).1 hs
theorem keeps_mark {most : Int} {n : Now} (h : Room most n) (hv : VarsOk n.s) (k : ByteArray) (ex fx : Bool) : Keeps n (dMark n.s k ex fx) (n.markP most k ex fx) := by
  unfold dMark Now.markP
  by_cases c1 : isName k = false
  · rw [if_pos c1, if_pos c1]; exact keeps_same n 16
  rw [if_neg c1, if_neg c1]
  dsimp only
  have ho := varsOk_var hv k
  rw [nilVar_eq (v := ⟨(n.s.var k).val, (n.s.var k).set, (n.s.var k).exp || ex, (n.s.var k).fix || fx⟩) ho]
  by_cases c2 : nilR ⟨(n.s.var k).val, (n.s.var k).set, (n.s.var k).exp || ex, (n.s.var k).fix || fx⟩ = true
  · rw [if_pos c2, dPut_nil c2]
    have hn : n.s.V k = none := by
      cases hx : n.s.V k with
      | none => rfl
      | some v =>
        have h1 := (hv k v hx).2
        have h2 : n.s.var k = v := by unfold Pst.var; rw [hx]; rfl
        rw [h2] at c2
        unfold nilR at c2
        cases e1 : v.set <;> cases e2 : v.exp <;> cases e3 : v.fix <;> simp [e1, e2, e3] at h1 c2
    rw [delM_none hn]
    exact keeps_same n 0
  · rw [if_neg c2, dPut_some (by simpa using c2)]
    exact keeps_put h _
theorem dVar_ok (v : VM.T) : VarOk (dVar v) := by
  unfold VarOk dVar
  intro hh
  split at hh
  · rename_i hs; rw [hs] at hh; cases hh
  · rename_i hs; rw [if_neg hs]
theorem keeps_putv {most : Int} {n : Now} (h : Room most n) (k : ByteArray) (v : VM.T) : Keeps n (dPutV n.s k v) (n.putP most k v) := by
  unfold dPutV Now.putP
  by_cases c1 : isName k = false
  · rw [if_pos c1, if_pos c1]; exact keeps_same n 16
  rw [if_neg c1, if_neg c1]
  show Keeps n (0, dPut n.s k (dVar v)) (if nilVar (dVar v) = true then n.delV most k else n.put most { n.s with V := putM n.s.V k (dVar v) })
  rw [nilVar_eq (dVar_ok v)]
  by_cases c2 : nilR (dVar v) = true
  · rw [if_pos c2, dPut_nil c2]
    exact keeps_delV h k
  · rw [if_neg c2, dPut_some (by simpa using c2)]
    exact keeps_put h _
theorem keeps_setf {most : Int} {n : Now} (h : Room most n) (k : ByteArray) (f : NM.T) : Keeps n (dSetF n.s k f) (n.setF most k f) := by
  unfold dSetF Now.setF
  by_cases c1 : isName k = false
  · rw [if_pos c1, if_pos c1]; exact keeps_same n 16
  rw [if_neg c1, if_neg c1]
  exact keeps_put h _
theorem keeps_unsetf {most : Int} {n : Now} (h : Room most n) (k : ByteArray) : Keeps n (dUnsetF n.s k) (n.unsetF most k) := by
  unfold dUnsetF Now.unsetF
  by_cases c1 : isName k = false
  · rw [if_pos c1, if_pos c1]; exact keeps_same n 16
  rw [if_neg c1, if_neg c1]
  by_cases c2 : (n.s.F k).isSome = false
  · rw [if_pos c2, if_pos c2]; exact keeps_same n 10
  rw [if_neg c2, if_neg c2]
  exact keeps_put h _
theorem keeps_seta {most : Int} {n : Now} (h : Room most n) (k v : ByteArray) : Keeps n (dSetA n.s k v) (n.setA most k v) := by
  unfold dSetA Now.setA
  by_cases c1 : isAlias k = false
  · rw [if_pos c1, if_pos c1]; exact keeps_same n 16
  rw [if_neg c1, if_neg c1]
  by_cases c2 : 4096 < v.size
  · rw [if_pos c2, if_pos c2]; exact keeps_same n 21
  rw [if_neg c2, if_neg c2]
  exact keeps_put h _
theorem keeps_una {most : Int} {n : Now} (h : Room most n) (k : ByteArray) : Keeps n (dUnA n.s k) (n.unA most k) := by
  unfold dUnA Now.unA
  by_cases c2 : (n.s.A k).isSome = false
  · rw [if_pos c2, if_pos c2]; exact keeps_same n 10
  rw [if_neg c2, if_neg c2]
  exact keeps_put h _
theorem keeps_sett {most : Int} {n : Now} (h : Room most n) (k v : ByteArray) : Keeps n (dSetT n.s k v) (n.setT most k v) := by
  unfold dSetT Now.setT
  by_cases c1 : isSignal k = false
  · rw [if_pos c1, if_pos c1]; exact keeps_same n 16
  rw [if_neg c1, if_neg c1]
  by_cases c2 : 4096 < v.size
  · rw [if_pos c2, if_pos c2]; exact keeps_same n 21
  rw [if_neg c2, if_neg c2]
  exact keeps_put h _
theorem keeps_unt {most : Int} {n : Now} (h : Room most n) (k : ByteArray) : Keeps n (dUnT n.s k) (n.unT most k) := by
  unfold dUnT Now.unT
  by_cases c1 : isSignal k = false
  · rw [if_pos c1, if_pos c1]; exact keeps_same n 16
  rw [if_neg c1, if_neg c1]
  exact keeps_delT h k
theorem keeps_seto {most : Int} {n : Now} (h : Room most n) (b : UInt8) (on : Bool) : Keeps n (dSetO n.s b on) (n.setO most b on) := by
  unfold dSetO Now.setO
  by_cases c1 : b ∈ Now.optL
  · rw [if_pos c1, if_pos c1]; exact keeps_put h _
  · rw [if_neg c1, if_neg c1]; exact keeps_same n 1
theorem keeps_setg {most : Int} {n : Now} (h : Room most n) (l : List ByteArray) : Keeps n (dSetG n.s l) (n.setG most l) := by
  unfold dSetG Now.setG
  by_cases c1 : 1000 < l.length
  · rw [if_pos c1, if_pos c1]; exact keeps_same n 20
  rw [if_neg c1, if_neg c1]
  by_cases c2 : (l.any fun x => decide (4096 < x.size)) = true
  · rw [if_pos c2, if_pos c2]; exact keeps_same n 21
  rw [if_neg c2, if_neg c2]
  exact keeps_put h _
theorem keeps_shift {most : Int} {n : Now} (h : Room most n) (k : Int) : Keeps n (dShift n.s k) (n.shiftP most k) := by
  unfold dShift Now.shiftP
  by_cases c1 : k < 0 ∨ (n.s.l.length : Int) < k
  · rw [if_pos c1, if_pos c1]; exact keeps_same n 1
  rw [if_neg c1, if_neg c1]
  exact keeps_put h _
theorem keeps_setc {most : Int} {n : Now} (h : Room most n) (a i : Int) : Keeps n (dSetC n.s a i) (n.setC most a i) := by
  unfold dSetC Now.setC
  by_cases c1 : a < 0 ∨ i < 0
  · rw [if_pos c1, if_pos c1]; exact keeps_same n 1
  rw [if_neg c1, if_neg c1]
  exact keeps_put h _
/-- The status alone. -/
theorem keeps_setq {n : Now} {x x2 : Sr} {was : List Sr} (k : Int) (h : Cps n x was) (h2 : SrIs n.s (k % 256) x2) : Cps (n.setQ k).2 x2 was := ⟨h2, h.len, h.was⟩
theorem put_hist (most : Int) (n : Now) (s2 : Pst) : (n.put most s2).2.hist.length ≤ n.hist.length + 1 ∧ (n.put most s2).2.q = n.q := by
  refine ⟨?_, rfl⟩
  show (tH most n.hist n.ms n.s).length ≤ _
  unfold tH
  split
  · omega
  · split
    · simp
    · omega
theorem delT_hist (most : Int) (n : Now) (k : ByteArray) : (n.delT most k).2.hist.length ≤ n.hist.length + 1 ∧ (n.delT most k).2.q = n.q := by
  unfold Now.delT
  split
  · exact ⟨Nat.le_succ _, rfl⟩
  · exact put_hist most n _
theorem delT_state {most : Int} {n : Now} (hr : (n.hist.length : Int) < most) (k : ByteArray) : (n.delT most k).2.s = { n.s with T := delM n.s.T k } := by
  unfold Now.delT
  by_cases c : (n.s.T k).isSome = false
  · rw [if_pos c]
    have : n.s.T k = none := by
      cases hx : n.s.T k with
      | none => rfl
      | some v => rw [hx] at c; cases c
    rw [delM_none this]
  · rw [if_neg c]
    show (if tE most n.hist n.ms = 0 then ({ n.s with T := delM n.s.T k } : Pst) else n.s) = _
    rw [tE_room hr, if_pos rfl]
theorem SrIs.delT {p : Pst} {q : Int} {x : Sr} (h : SrIs p q x) (k : ByteArray) : SrIs { p with T := delM p.T k } q { x with T := without k x.T } :=
  ⟨h.V, h.F, h.A, without_pairs h.T k, h.o, h.G, h.at_, h.in_, h.q, h.vo⟩
theorem put_marked {most : Int} {n : Now} (h : Marked n.hist.length n.ms.reverse) (s2 : Pst) : Marked (n.put most s2).2.hist.length (n.put most s2).2.ms.reverse := by
  show Marked (tH most n.hist n.ms n.s).length n.ms.reverse
  unfold tH
  by_cases c : n.ms = []
  · rw [if_pos c]; exact h
  · rw [if_neg c]
    split
    · rw [List.length_append]; exact marked_more h c
    · exact h
theorem delT_marked {most : Int} {n : Now} (h : Marked n.hist.length n.ms.reverse) (k : ByteArray) : Marked (n.delT most k).2.hist.length (n.delT most k).2.ms.reverse := by
  unfold Now.delT
  split
  · exact h
  · exact put_marked h _
def Pst.withT (p : Pst) (M : ByteArray → Option ByteArray) : Pst := { p with T := M }
open Classical in
/-- Enter, note by note. -/
theorem enterL_cps (most : Int) : ∀ (ks : List ByteArray) (n : Now) (x : Sr) (was : List Sr), Marked n.hist.length n.ms.reverse → (n.hist.length : Int) + ks.length < most → Cps n x was →
    (Now.enterL most ks n).1 = 0 ∧ (∃ x', Cps (Now.enterL most ks n).2 x' was) ∧ (Now.enterL most ks n).2.q = n.q ∧ (Now.enterL most ks n).2.s = n.s.withT (fun k => if k ∈ ks ∧ ¬ ((n.s.T k).getD ⟨#[]⟩).size = 0 then none else n.s.T k)
  | [], n, x, was, hm, hr, h => ⟨rfl, ⟨x, h⟩, rfl, by
      show n.s = _
      have : (fun k => if k ∈ ([] : List ByteArray) ∧ ¬ ((n.s.T k).getD ⟨#[]⟩).size = 0 then none else n.s.T k) = n.s.T := by
        funext k
        rw [if_neg (fun h => absurd h.1 List.not_mem_nil)]
      rw [this]
      rfl⟩
  | k :: ks, n, x, was, hm, hr, h => by
    rw [List.length_cons] at hr
    rw [enterL_cons]
    by_cases hz : ((n.s.T k).getD ⟨#[]⟩).size = 0
    · rw [if_pos hz]
      obtain ⟨h1, h2, h3, h4⟩ := enterL_cps most ks n x was hm (by omega) h
      refine ⟨h1, h2, h3, ?_⟩
      rw [h4]
      congr 1
      funext s
      by_cases c : s = k
      · subst c
        rw [if_neg (fun h => h.2 hz), if_neg (fun h => h.2 hz)]
      · by_cases d : s ∈ ks ∧ ¬ ((n.s.T s).getD ⟨#[]⟩).size = 0
        · rw [if_pos d, if_pos ⟨List.mem_cons_of_mem _ d.1, d.2⟩]
        · rw [if_neg d, if_neg (fun e => d ⟨(List.mem_cons.1 e.1).resolve_left c, e.2⟩)]
    · rw [if_neg hz]
      have hr0 : (n.hist.length : Int) < most := by omega
      have hst := delT_state hr0 k
      have hh := delT_hist most n k
      have hd : (n.delT most k).1 = 0 ∧ Cps (n.delT most k).2 { x with T := without k x.T } was := by
        unfold Now.delT
        by_cases c : (n.s.T k).isSome = false
        · rw [if_pos c]
          have hn : n.s.T k = none := by
            cases hx : n.s.T k with
            | none => rfl
            | some v => rw [hx] at c; cases c
          rw [hn] at hz
          exact absurd rfl hz
        · rw [if_neg c]
          exact h.put hm hr0 (h.now.delT k)
      rw [if_pos hd.1]
      obtain ⟨h1, h2, h3, h4⟩ := enterL_cps most ks (n.delT most k).2 _ was (delT_marked hm k) (by omega) hd.2
      refine ⟨h1, h2, h3.trans hh.2, ?_⟩
      rw [h4, hst]
      show Pst.withT n.s _ = Pst.withT n.s _
      congr 1
      funext s
      show (if s ∈ ks ∧ ¬ ((delM n.s.T k s).getD ⟨#[]⟩).size = 0 then none else delM n.s.T k s) = _
      unfold delM
      by_cases c : s = k
      · subst c
        simp only [if_true, ite_self, List.mem_cons_self, true_and]
        rw [if_pos hz]
      · rw [if_neg c]
        by_cases d : s ∈ ks ∧ ¬ ((n.s.T s).getD ⟨#[]⟩).size = 0
        · rw [if_pos d, if_pos ⟨List.mem_cons_of_mem _ d.1, d.2⟩]
        · rw [if_neg d, if_neg (fun e => d ⟨(List.mem_cons.1 e.1).resolve_left c, e.2⟩)]
theorem keeps_enter {most : Int} {n : Now} (h : Room most n) {ks : List ByteArray} (hk : KeysOf n.s.T ks) (hl : ks.length ≤ 5) : (∃ x was, Cps n x was) → Keeps n (0, dEnter n.s) (Now.enterL most ks n) := by
  rintro ⟨y, wy, hy⟩
  have key : ∀ x was, Cps n x was → (Now.enterL most ks n).1 = 0 ∧ (∃ x', Cps (Now.enterL most ks n).2 x' was) ∧ (Now.enterL most ks n).2.q = n.q ∧ (Now.enterL most ks n).2.s = dEnter n.s := fun x was hc => by
    obtain ⟨h1, h2, h3, h4⟩ := enterL_cps most ks n x was h.m (by have := h.r; omega) hc
    refine ⟨h1, h2, h3, h4.trans ?_⟩
    show Pst.withT n.s _ = Pst.withT n.s _
    congr 1
    funext k
    unfold idleM
    by_cases c : ((n.s.T k).getD ⟨#[]⟩).size = 0
    · rw [if_pos c, if_neg (fun e => e.2 c)]
    · rw [if_neg c]
      by_cases d : k ∈ ks
      · rw [if_pos ⟨d, c⟩]
      · rw [if_neg (fun e => d e.1)]
        have : ¬ (n.s.T k).isSome = true := fun e => d ((hk.2 k).2 e)
        cases hx : n.s.T k with
        | none => rfl
        | some v => rw [hx] at this; exact absurd rfl this
  refine ⟨(key y wy hy).1, fun x x2 was hc h2 => ?_⟩
  obtain ⟨h1, ⟨x', hx'⟩, h3, h4⟩ := key x was hc
  refine hx'.swap ?_
  rw [h4, h3]
  exact h2
/-- How many notes a call adds. -/
theorem put_case {most : Int} {n : Now} {s2 : Pst} : (n.put most s2).2.hist.length ≤ n.hist.length + 5 := by have := (put_hist most n s2).1; omega
theorem enterL_hist (most : Int) : ∀ (ks : List ByteArray) (n : Now), (Now.enterL most ks n).2.hist.length ≤ n.hist.length + ks.length
  | [], n => Nat.le_refl _
  | k :: ks, n => by
    rw [enterL_cons, List.length_cons]
    have h1 := enterL_hist most ks n
    have h2 := enterL_hist most ks (n.delT most k).2
    have h3 := (delT_hist most n k).1
    split
    · omega
    · split <;> omega
theorem does_hist {K : Ctx} {n m : Now} {o : Opr} {en : Int} (hT : ∀ ks, KeysOf n.s.T ks → ks.length ≤ 5) (h : DoR K n o en m) : m.hist.length ≤ n.hist.length + 5 := by
  have key : ∀ {r : Int × Now}, (en, m) = r → r.2.hist.length ≤ n.hist.length + 5 → m.hist.length ≤ n.hist.length + 5 := fun e h => by rw [← e] at h; exact h
  have h0 : n.hist.length ≤ n.hist.length + 5 := Nat.le_add_right _ _
  cases h with
  | c0 ha hd => refine key hd ?_; unfold Now.setP; (repeat' split) <;> first | exact h0 | exact put_case
  | c1 ha hd => refine key hd ?_; unfold Now.unsetP Now.delV; (repeat' split) <;> first | exact h0 | exact put_case
  | c2 ha hd => refine key hd ?_; unfold Now.markP; dsimp only; (repeat' split) <;> first | exact h0 | exact put_case
  | c3 ha hd => refine key hd ?_; unfold Now.setF; (repeat' split) <;> first | exact h0 | exact put_case
  | c4 ha hd => refine key hd ?_; unfold Now.unsetF; (repeat' split) <;> first | exact h0 | exact put_case
  | c5 ha hd => refine key hd ?_; unfold Now.setA; (repeat' split) <;> first | exact h0 | exact put_case
  | c6 ha hd => refine key hd ?_; unfold Now.unA; (repeat' split) <;> first | exact h0 | exact put_case
  | c7 ha hd => refine key hd ?_; unfold Now.setT; (repeat' split) <;> first | exact h0 | exact put_case
  | c8 ha hd => refine key hd ?_; unfold Now.unT Now.delT; (repeat' split) <;> first | exact h0 | exact put_case
  | c9 ha hd =>
    obtain ⟨ks, hk, hd⟩ := hd
    refine key hd ?_
    have := enterL_hist K.most ks n
    have := hT ks hk
    omega
  | c10 ha hd => refine key hd ?_; unfold Now.setO; (repeat' split) <;> first | exact h0 | exact put_case
  | c11 ha hd => refine key hd ?_; unfold Now.setO; (repeat' split) <;> first | exact h0 | exact put_case
  | c12 ha hd => refine key hd ?_; unfold Now.setG; (repeat' split) <;> first | exact h0 | exact put_case
  | c13 ha hd => refine key hd ?_; unfold Now.shiftP; (repeat' split) <;> first | exact h0 | exact put_case
  | c14 ha hd => refine key hd ?_; unfold Now.setC; (repeat' split) <;> first | exact h0 | exact put_case
  | c15 ha hd => exact key hd h0
  | c16 ha hd => refine key hd ?_; unfold Now.markM; (repeat' split) <;> exact h0
  | c17 ha hd => refine key hd ?_; unfold Now.markM; (repeat' split) <;> exact h0
  | c18 ha hd =>
    refine key hd ?_
    unfold Now.undoM
    split
    · exact h0
    · show (n.hist.take _).length ≤ _; rw [List.length_take]; omega
  | c19 ha hd =>
    refine key hd ?_
    unfold Now.undoM
    split
    · exact h0
    · show (n.hist.take _).length ≤ _; rw [List.length_take]; omega
theorem putP_hist (most : Int) (n : Now) (k : ByteArray) (v : VM.T) : (n.putP most k v).2.hist.length ≤ n.hist.length + 5 := by
  have h0 : n.hist.length ≤ n.hist.length + 5 := Nat.le_add_right _ _
  unfold Now.putP Now.delV
  dsimp only
  (repeat' split) <;> first | exact h0 | exact put_case
end Go.Proofs.YtlmjidandjemjaaGreatDoor.State

