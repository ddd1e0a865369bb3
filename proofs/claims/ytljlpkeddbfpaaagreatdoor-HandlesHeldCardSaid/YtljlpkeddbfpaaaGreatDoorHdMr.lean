/- Read and Write of the table as the machine's steps; does. -/
import Derived.Test.YtljlpkeddbfpaaaGreatDoorHdMd
import Derived.Test.YtljlpkeddbfpaaaGreatDoorHdY
namespace Go.Proofs.YtljlpkeddbfpaaaGreatDoor.Hd
open Go.RowKit Go.Maps Go.Proofs.YtljlpkeddbfpaaaGreatDoor Go.Proofs.YtljlpkeddbfpaaaGreatDoor.Hp
set_option linter.unusedVariables false

section
variable {c : Pls} {s : Sg} {o : Opr} {N : Nat} {w : World} {R : Hp}
theorem use_small {k : Int} {p : Pp} (hp : findA s.P k = some p) (ht : s.tot ≤ 1000000000) (h : Sat w (SgHp c s * R)) : sumA Pp.use (delA s.P k) ≤ 1000000000 := by
  have H9 := sg_open h
  rw [pool_get hp] at H9
  obtain ⟨pp1, cap1, F1, hle, _⟩ := Spill.poolX_out (H9.perm (show _ = Spill.poolX c.bp 40 3 4 _ _ _ s.tot * (fsHp c.fb c.mb s.F * (tabHp c.tb c.fb c.bp c.hm s.L s.n * (pipesHp c s.P * (snksHp s.L * R)))) by ac_rfl))
  omega
theorem op_Read (hN : N ≤ 100) (hI : Inv N s) (ho : OkOp o) (ha : askI o = 6) (h : Sat w (SgHp c s * R)) :
    Calls Tryz.prog 19 #[pp c.tb, .int .i64 o.id, .int .i64 o.n] w fun e w' => ∃ (t : ByteArray) (er : Int), e = .returned (.tuple #[.string t, .int .i64 er]) ∧ After c s o w R 0 t er w' := by
  cases hy : findA s.L o.id with
  | none =>
    refine (TRead_none c.tb c.fb c.bp c.hm s.n s.L o.id o.n ho.2.1 hy w _ (sg_tab h)).mono ?_
    rintro e w' ⟨rfl, rfl⟩
    exact ⟨nilB, 18, rfl, s, .read_no ha hy, h, Below.refl 0 w⟩
  | some y =>
    have hth := hI.th _ y hy
    have htot := hI.tot
    have hn2 := ho.2.2.2.1.2
    unfold ThOk at hth
    have no : readable y.t = false → ∀ {e : Ending} {w' : World}, e = .returned (.tuple #[.string ⟨#[]⟩, .int .i64 19]) ∧ Below w.heap.size w w' → ∃ (t : ByteArray) (er : Int), e = .returned (.tuple #[.string t, .int .i64 er]) ∧ After c s o w R 0 t er w' :=
      fun hr e w' hB => ⟨nilB, 19, hB.1, s, .read_mode y ha hy hr, h.below hB.2, below_ran hB.2⟩
    have neg : readable y.t = true → o.n < 0 → ∀ {e : Ending} {w' : World}, e = .returned (.tuple #[.string ⟨#[]⟩, .int .i64 1]) ∧ Below w.heap.size w w' → ∃ (t : ByteArray) (er : Int), e = .returned (.tuple #[.string t, .int .i64 er]) ∧ After c s o w R 0 t er w' :=
      fun hr hn e w' hB => ⟨nilB, 1, hB.1, s, .read_neg y ha hy hr hn, h.below hB.2, below_ran hB.2⟩
    cases hyt : y.t with
    | file k a m =>
      rw [hyt] at hth
      cases hm : m.r with
      | false =>
        refine (TRead_no_file c.tb c.fb c.bp c.hm s.n s.L o.id y k a m ho.2.1 hy hyt o.n hm w _ (sg_tab h)).mono ?_
        exact fun e w' hB => no (by rw [hyt]; exact hm) hB
      | true =>
        by_cases hn : o.n < 0
        · refine (TRead_neg_file c.tb c.fb c.bp c.hm s.n s.L o.id y k a m ho.2.1 hy hyt o.n hn hm w _ (sg_tab h)).mono ?_
          exact fun e w' hB => neg (by rw [hyt]; exact hm) hn hB
        · obtain ⟨q, hq⟩ : ∃ q : Nat, o.n = (q : Int) := ⟨o.n.toNat, by omega⟩
          obtain ⟨x, hx⟩ := Option.isSome_iff_exists.1 ((hI.tree.only k).2 (by omega))
          have hk2 := (hI.tree.files k x hx).2 hth.1
          rw [hq]
          refine (TRead_file c.tb c.fb c.mb c.bp c.hm s.n s.F s.L o.id k y a m x q ho.2.1 hy hyt hm (by unfold I64; omega) (by omega) (by omega) hI.tree.ok hx (by omega) w _ (sg_open h)).mono ?_
          rintro e w' ⟨⟨rfl, S⟩, hR⟩
          refine ⟨_, 0, rfl, _, .read_file y k a q m x ha hy hyt hm hq hx, sg_shut ?_, hR⟩
          rw [snks_upd (y' := { y with t := .file k (a + (readB x.text a q).size) m }) hy (by rw [hyt]; rfl) rfl]
          exact S
    | text t a =>
      rw [hyt] at hth
      by_cases hn : o.n < 0
      · refine (TRead_neg_text c.tb c.fb c.bp c.hm s.n s.L o.id y t a ho.2.1 hy hyt o.n hn w _ (sg_tab h)).mono ?_
        exact fun e w' hB => neg (by rw [hyt]; rfl) hn hB
      · obtain ⟨q, hq⟩ : ∃ q : Nat, o.n = (q : Int) := ⟨o.n.toNat, by omega⟩
        rw [hq]
        refine (TRead_text c.tb c.fb c.bp c.hm s.n s.L o.id y t a q ho.2.1 hy hyt hth.1 (by omega) (by omega) w _ (sg_tab h)).mono ?_
        rintro e w' ⟨⟨rfl, S⟩, hR⟩
        refine ⟨_, 0, rfl, _, .read_text y t a q ha hy hyt hq, sg_shut ?_, hR⟩
        rw [snks_upd (y' := { y with t := .text t (a + (readB t a q).size) }) hy (by rw [hyt]; rfl) rfl]
        exact S.perm (by ac_rfl)
    | sink sp q cap l most =>
      refine (TRead_no_sink c.tb c.fb c.bp c.hm s.n s.L o.id y sp q cap l most ho.2.1 hy hyt o.n w _ (sg_tab h)).mono ?_
      exact fun e w' hB => no (by rw [hyt]; rfl) hB
    | reader bb eb =>
      rw [hyt] at hth
      obtain ⟨p, hp, rfl, hrd⟩ := hth
      obtain ⟨hpk, hpo, hpt⟩ := hI.pk _ p hp
      have hbb : p.bb = bb := by omega
      subst hbb
      by_cases hn : o.n < 0
      · obtain ⟨X, HX⟩ := sg_pipe h hp
        refine (TRead_neg_reader c.tb c.fb c.bp c.hm s.n s.L o.id y p.bb p.eb c.bp p.frm p.data ho.2.1 hy hyt (by omega) o.n hn w _ HX).mono ?_
        exact fun e w' hB => neg (by rw [hyt]; rfl) hn hB
      · obtain ⟨q, hq⟩ : ∃ q : Nat, o.n = (q : Int) := ⟨o.n.toNat, by omega⟩
        obtain ⟨X, q1, q2, q3⟩ := pipe_open (c := c) hp
        have hS := hI.held
        have hsum := sumA_get Pp.len s.P _ p hp
        have hlen : p.data.length = Pp.len p := rfl
        rw [hq]
        refine (TRead_reader c.tb c.fb c.bp c.hm s.n (p.data.length + sumA Pp.len (delA s.P (p.bb : Int))) (sumA Pp.use (delA s.P (p.bb : Int))) ((delA s.P (p.bb : Int)).length + 1) s.tot p.frm s.L o.id y p.bb p.eb p.data q ho.2.1 hy hyt (by omega) (by omega) (by omega) (by omega) (use_small hp (by omega) h) (by omega) w (fsHp c.fb c.mb s.F * (pts p.eb (ebO (p.ends : Int)) * (X * (snksHp s.L * R)))) ((sg_tab h).perm (by rw [q1, pool_get hp]; ac_rfl))).mono ?_
        rintro e w' ⟨⟨rfl, S⟩, hR⟩
        refine ⟨_, 0, rfl, _, .read_pipe y p.bb p.eb q p ha hy hyt hq hp, sg_shut ?_, hR⟩
        obtain ⟨r, hr⟩ : ∃ r, r = min q p.data.length := ⟨_, rfl⟩
        rw [← hr] at S ⊢
        have hrl : r ≤ p.data.length := by omega
        rw [q2, pool_upd hp]
        have e9 : pipeHp c.bp { p with frm := p.frm + r, data := p.data.drop r } = Spill.bufX p.bb c.bp 3 4 (p.frm + r) (p.data.drop r) * pts p.eb (ebO (p.ends : Int)) := rfl
        rw [e9]
        dsimp only
        rw [List.length_drop, show p.frm + r + (p.data.length - r) = p.frm + p.data.length by omega, show p.data.length - r + sumA Pp.len (delA s.P (p.bb : Int)) = p.data.length + sumA Pp.len (delA s.P (p.bb : Int)) - r by omega]
        exact S.perm (by ac_rfl)
    | writer bb eb =>
      rw [hyt] at hth
      obtain ⟨p, hp, rfl, hwr⟩ := hth
      obtain ⟨hpk, hpo, hpt⟩ := hI.pk _ p hp
      have hbb : p.bb = bb := by omega
      subst hbb
      obtain ⟨X, HX⟩ := sg_pipe h hp
      refine (TRead_no_writer c.tb c.fb c.bp c.hm s.n s.L o.id y p.bb p.eb c.bp p.frm p.data ho.2.1 hy hyt (by omega) o.n w _ HX).mono ?_
      exact fun e w' hB => no (by rw [hyt]; rfl) hB
theorem op_Write (hN : N ≤ 100) (hI : Inv N s) (ho : OkOp o) (hd : o.d.size ≤ 100) (ha : askI o = 7) (h : Sat w (SgHp c s * R)) :
    Calls Tryz.prog 11 #[pp c.tb, .int .i64 o.id, .string o.d] w fun e w' => ∃ er : Int, e = .returned (.int .i64 er) ∧ After c s o w R 0 nilB er w' := by
  cases hy : findA s.L o.id with
  | none =>
    refine (TWrite_none c.tb c.fb c.bp c.hm s.n s.L o.id o.d ho.2.1 hy w _ (sg_tab h)).mono ?_
    rintro e w' ⟨rfl, rfl⟩
    exact ⟨18, rfl, s, .write_no ha hy, h, Below.refl 0 w⟩
  | some y =>
    have hth := hI.th _ y hy
    have htot := hI.tot
    unfold ThOk at hth
    have no : writable y.t = false → ∀ {e : Ending} {w' : World}, e = .returned (.int .i64 19) ∧ Below w.heap.size w w' → ∃ er : Int, e = .returned (.int .i64 er) ∧ After c s o w R 0 nilB er w' :=
      fun hr e w' hB => ⟨19, hB.1, s, .write_mode y ha hy hr, h.below hB.2, below_ran hB.2⟩
    cases hyt : y.t with
    | file k a m =>
      rw [hyt] at hth
      cases hm : m.w with
      | false =>
        refine (TWrite_no_file c.tb c.fb c.bp c.hm s.n s.L o.id y k a m ho.2.1 hy hyt o.d hm w _ (sg_tab h)).mono ?_
        exact fun e w' hB => no (by rw [hyt]; exact hm) hB
      | true =>
        obtain ⟨x, hx⟩ := Option.isSome_iff_exists.1 ((hI.tree.only k).2 (by omega))
        have hk2 := (hI.tree.files k x hx).2 hth.1
        have hu := hI.tree.used
        have hr := hI.tree.room
        refine (TWrite_file c.tb c.fb c.mb c.bp c.hm s.n s.F s.L o.id k y a m x o.d ho.2.1 hy hyt hm (by unfold I64; omega) (by omega) (by omega) hI.tree.ok hx hk2 (hI.tree.kids k x hx hk2).1 (by omega) (by omega) w _ (sg_open h)).mono ?_
        rintro e w' ⟨⟨rfl, S⟩, hR⟩
        refine ⟨_, rfl, _, .write_file y k a m x ha hy hyt hm hx, sg_shut ?_, hR⟩
        rw [snks_upd (y' := { y with t := .file k (atN s.F k x a m o.d) m }) hy (by rw [hyt]; rfl) rfl]
        exact S
    | text t a =>
      refine (TWrite_no_text c.tb c.fb c.bp c.hm s.n s.L o.id y t a ho.2.1 hy hyt o.d w _ (sg_tab h)).mono ?_
      exact fun e w' hB => no (by rw [hyt]; rfl) hB
    | sink sp q cap l most =>
      rw [hyt] at hth
      obtain ⟨X, e1, e2, _⟩ := focusA (fun x : Hn => snkT x.t) s.L o.id y hy
      have e1' : snksHp s.L = bufHp q cap l * X := by unfold snksHp; rw [e1, hyt]; rfl
      have H2 := sg_tab h
      rw [e1'] at H2
      refine (TWrite_sink c.tb c.fb c.bp c.hm s.n s.L o.id y sp q cap l most o.d ho.2.1 hy hyt hth.1 hth.2.1 hth.2.2 (by omega) w _ (H2.perm (show _ = tabHp c.tb c.fb c.bp c.hm s.L s.n * (bufHp q cap l * (fsHp c.fb c.mb s.F * (poolHp c s.P s.tot * (pipesHp c s.P * (X * R))))) by ac_rfl))).mono ?_
      rintro e w' ⟨⟨rfl, sp', q', cap', hsp, S⟩, hR⟩
      refine ⟨_, rfl, _, .write_sink y sp q sp' q' cap cap' l most ha hy hyt hsp, sg_shut ?_, hR⟩
      have e2' : snksHp (updA s.L o.id { y with t := .sink sp' q' cap' (skL l most o.d) most }) = bufHp q' cap' (skL l most o.d) * X := e2 _
      rw [e2']
      exact S.perm (by ac_rfl)
    | reader bb eb =>
      rw [hyt] at hth
      obtain ⟨p, hp, rfl, hrd⟩ := hth
      obtain ⟨hpk, hpo, hpt⟩ := hI.pk _ p hp
      have hbb : p.bb = bb := by omega
      subst hbb
      obtain ⟨X, HX⟩ := sg_pipe h hp
      refine (TWrite_no_reader c.tb c.fb c.bp c.hm s.n s.L o.id y p.bb p.eb c.bp p.frm p.data ho.2.1 hy hyt (by omega) o.d w _ HX).mono ?_
      exact fun e w' hB => no (by rw [hyt]; rfl) hB
    | writer bb eb =>
      rw [hyt] at hth
      obtain ⟨p, hp, rfl, hwr⟩ := hth
      obtain ⟨hpk, hpo, hpt⟩ := hI.pk _ p hp
      have hbb : p.bb = bb := by omega
      subst hbb
      obtain ⟨X, q1, q2, q3⟩ := pipe_open (c := c) hp
      have hS := hI.held
      have hsum := sumA_get Pp.len s.P _ p hp
      have hlen : p.data.length = Pp.len p := rfl
      have hbs := bs_length o.d
      by_cases hf : 40 < sumA Pp.len s.P + o.d.size
      · refine (TWrite_writer_full c.tb c.fb c.bp c.hm s.n (sumA Pp.len s.P) (sumA Pp.use s.P) s.P.length s.tot p.frm s.L o.id y p.bb p.eb p.data o.d ho.2.1 hy hyt hf hS (by omega) w (fsHp c.fb c.mb s.F * (pts p.eb (ebO (p.ends : Int)) * (X * (snksHp s.L * R)))) ((sg_tab h).perm (by unfold poolHp; rw [q1]; ac_rfl))).mono ?_
        rintro e w' ⟨⟨rfl, S⟩, hR⟩
        refine ⟨41, rfl, s, .write_full y p.bb p.eb p ha hy hyt hp hf, ?_, hR⟩
        have : Sat w' (SgHp c ⟨s.F, s.L, s.n, s.P, s.tot⟩ * R) := sg_shut (by rw [q1]; unfold poolHp; exact S.perm (by ac_rfl))
        exact this
      · have hW := TWrite_writer c.tb c.fb c.bp c.hm s.n (p.data.length + sumA Pp.len (delA s.P (p.bb : Int))) (sumA Pp.use (delA s.P (p.bb : Int))) ((delA s.P (p.bb : Int)).length + 1) s.tot p.frm s.L o.id y p.bb p.eb p.data (bs o.d) ho.2.1 hy hyt (by omega) (by omega) (use_small hp (by omega) h) (by omega) w (fsHp c.fb c.mb s.F * (pts p.eb (ebO (p.ends : Int)) * (X * (snksHp s.L * R)))) ((sg_tab h).perm (by rw [q1, pool_get hp]; ac_rfl))
        rw [to_bs'] at hW
        refine hW.mono ?_
        rintro e w' ⟨⟨rfl, S⟩, hR⟩
        refine ⟨0, rfl, _, .write_pipe y p.bb p.eb p ha hy hyt hp (by omega), sg_shut ?_, hR⟩
        rw [q2, pool_upd hp]
        have e9 : pipeHp c.bp { p with data := p.data ++ bs o.d } = Spill.bufX p.bb c.bp 3 4 p.frm (p.data ++ bs o.d) * pts p.eb (ebO (p.ends : Int)) := rfl
        rw [e9]
        dsimp only
        rw [← hbs, show (p.data ++ bs o.d).length + sumA Pp.len (delA s.P (p.bb : Int)) = p.data.length + sumA Pp.len (delA s.P (p.bb : Int)) + (bs o.d).length by rw [List.length_append]; omega]
        exact S.perm (by ac_rfl)
/-- does, at the machine. -/
theorem does_step (x y : Value) (hN : N ≤ 100) (hI : Inv N s) (ho : OkOp o) (hd : o.d.size ≤ 100) (h : Sat w (SgHp c s * R)) :
    Calls Tryz.prog 22 #[worldV x y (pp c.tb), opA o] w fun e w' => ∃ (n : Int) (t : ByteArray) (er : Int), e = .returned (.tuple #[.int .i64 n, .string t, .int .i64 er]) ∧ After c s o w R n t er w' := by
  have h2 := ((h.alloc (woO x y (pp c.tb))).alloc (opO o)).perm (show _ = SgHp c s * (pts (w.alloc (woO x y (pp c.tb))).heap.size (opO o) * (pts w.heap.size (woO x y (pp c.tb)) * R)) by ac_rfl)
  have hr : Ran w ((w.alloc (woO x y (pp c.tb))).alloc (opO o)) := Ran.new (Ran.new (Below.refl 0 w) _) _
  have back : ∀ n t er w', After c s o ((w.alloc (woO x y (pp c.tb))).alloc (opO o)) (pts (w.alloc (woO x y (pp c.tb))).heap.size (opO o) * (pts w.heap.size (woO x y (pp c.tb)) * R)) n t er w' → After c s o w R n t er w' := by
    rintro n t er w' ⟨s', hs, S, hR⟩
    exact ⟨s', hs, (S.perm (show _ = pts (w.alloc (woO x y (pp c.tb))).heap.size (opO o) * pts w.heap.size (woO x y (pp c.tb)) * (SgHp c s' * R) by ac_rfl)).right, Below.trans hr hR⟩
  rcases askI_cases o with ha | ha | ha | ha | ha | ha | ha | ha
  · exact does_File o x y _ w _ ha ((op_File hN hI ho ha h2).mono fun e w' ⟨n, er, he, hA⟩ => ⟨n, er, he, back _ _ _ _ hA⟩)
  · exact does_Text o x y _ w _ ha ((op_Text hN hI hd ha h2).mono fun e w' ⟨n, er, he, hA⟩ => ⟨n, er, he, back _ _ _ _ hA⟩)
  · exact does_Sink o x y _ w _ ha ((op_Sink hN hI ha h2).mono fun e w' ⟨n, er, he, hA⟩ => ⟨n, er, he, back _ _ _ _ hA⟩)
  · exact does_Pipe o x y _ w _ ha ((op_Pipe hN hI ha h2).mono fun e w' ⟨a, b, er, he, h1, h2, hA⟩ => ⟨a, b, er, he, h1, h2, back _ _ _ _ hA⟩)
  · exact does_Ref o x y _ w _ ha ((op_Ref hN hI ho ha h2).mono fun e w' ⟨er, he, hA⟩ => ⟨er, he, back _ _ _ _ hA⟩)
  · exact does_Unref o x y _ w _ ha ((op_Unref hN hI ho ha h2).mono fun e w' ⟨er, he, hA⟩ => ⟨er, he, back _ _ _ _ hA⟩)
  · exact does_Read o x y _ w _ ha ((op_Read hN hI ho ha h2).mono fun e w' ⟨t, er, he, hA⟩ => ⟨t, er, he, back _ _ _ _ hA⟩)
  · exact does_Write o x y _ w _ ha ((op_Write hN hI ho hd ha h2).mono fun e w' ⟨er, he, hA⟩ => ⟨er, he, back _ _ _ _ hA⟩)
end
end Go.Proofs.YtljlpkeddbfpaaaGreatDoor.Hd
