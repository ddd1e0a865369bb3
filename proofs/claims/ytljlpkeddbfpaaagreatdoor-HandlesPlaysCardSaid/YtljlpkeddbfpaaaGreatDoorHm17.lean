/- HandlesPlays, part 17 of 34: the texts HdMd HdMr, joined by a program. -/
import Derived.Test.YtljlpkeddbfpaaaGreatDoorHm16
import Derived.Test.YtljlpkeddbfpaaaGreatDoorHm7
namespace Go.Proofs.YtljlpkeddbfpaaaGreatDoor.Hd
open Go.RowKit Go.Maps Go.Proofs.YtljlpkeddbfpaaaGreatDoor Go.Proofs.YtljlpkeddbfpaaaGreatDoor.Hp
set_option linter.unusedVariables false

theorem pipe_open {c : Pls} {P : PL} {k : Int} {p : Pp} (hp : findA P k = some p) : ∃ X : Hp, pipesHp c P = Spill.bufX p.bb c.bp 3 4 p.frm p.data * (pts p.eb (ebO (p.ends : Int)) * X) ∧
    (∀ p', pipesHp c (updA P k p') = pipeHp c.bp p' * X) ∧ pipesHp c (delA P k) = X := by
  obtain ⟨X, e1, e2, e3⟩ := focusA (pipeHp c.bp) P k p hp
  refine ⟨X, ?_, e2, e3⟩
  unfold pipesHp
  rw [e1]; unfold pipeHp; ac_rfl
theorem pool_get {c : Pls} {P : PL} {k : Int} {p : Pp} (hp : findA P k = some p) (t : Nat) :
    poolHp c P t = Spill.poolX c.bp 40 3 4 (p.data.length + sumA Pp.len (delA P k)) (sumA Pp.use (delA P k) + (Spill.cl 3 4 (p.frm + p.data.length) - Spill.gn 3 4 p.frm)) ((delA P k).length + 1) t := by
  unfold poolHp
  rw [sumA_get Pp.len P k p hp, sumA_get Pp.use P k p hp, delA_len P k (by rw [hp]; rfl), Nat.add_comm (Pp.use p)]
  rfl
theorem pool_upd {c : Pls} {P : PL} {k : Int} {p : Pp} (hp : findA P k = some p) (p' : Pp) (t : Nat) :
    poolHp c (updA P k p') t = Spill.poolX c.bp 40 3 4 (p'.data.length + sumA Pp.len (delA P k)) (sumA Pp.use (delA P k) + (Spill.cl 3 4 (p'.frm + p'.data.length) - Spill.gn 3 4 p'.frm)) ((delA P k).length + 1) t := by
  unfold poolHp
  rw [sumA_upd Pp.len P k p p' hp, sumA_upd Pp.use P k p p' hp, updA_len, delA_len P k (by rw [hp]; rfl), Nat.add_comm (Pp.use p')]
  rfl
theorem buf_pts {w : World} {a bp f1 : Nat} {d1 : List UInt8} {R : Hp} (h : Sat w (Spill.bufX a bp 3 4 f1 d1 * R)) : ∃ (o : Obj) (Z : Hp), Sat w (pts a o * (Z * R)) := by
  obtain ⟨fb, p, cap, fs, L, _, _, h1⟩ := Spill.bufX_out h
  unfold Spill.bufO at h1
  exact ⟨_, _, h1.perm (sep_assoc _ _ _)⟩
theorem buf_ne {w : World} {a b bp f1 f2 : Nat} {d1 d2 : List UInt8} {R : Hp} (h : Sat w (Spill.bufX a bp 3 4 f1 d1 * (Spill.bufX b bp 3 4 f2 d2 * R))) : a ≠ b := by
  obtain ⟨o, Z, h1⟩ := buf_pts h
  obtain ⟨o2, Z2, h2⟩ := buf_pts (h1.perm (show _ = Spill.bufX b bp 3 4 f2 d2 * (pts a o * (Z * R)) by ac_rfl))
  exact (h2.perm (show _ = pts a o * (pts b o2 * (Z2 * (Z * R))) by ac_rfl)).ne
theorem pipe_fresh {c : Pls} {w : World} {P : PL} {bb f : Nat} {d : List UInt8} {R : Hp} (hk : ∀ k p, findA P k = some p → k = (p.bb : Int)) (h : Sat w (Spill.bufX bb c.bp 3 4 f d * (pipesHp c P * R))) : findA P (bb : Int) = none := by
  cases hp : findA P (bb : Int) with
  | none => rfl
  | some p =>
    obtain ⟨X, e1, _⟩ := pipe_open (c := c) hp
    rw [e1] at h
    have := buf_ne (h.perm (show _ = Spill.bufX bb c.bp 3 4 f d * (Spill.bufX p.bb c.bp 3 4 p.frm p.data * (pts p.eb (ebO (p.ends : Int)) * X * R)) by ac_rfl))
    have := hk _ p hp
    omega
theorem free_ex (L : HL) : ∃ g : Nat, Free L g := by
  obtain ⟨g, h1, h2, h3, h4⟩ := free_number L
  exact ⟨g, ⟨h1, h2, h3, h4⟩⟩
theorem free_any {L : HL} {k : Int} {x : Hn} {g : Nat} (h : Free ((k, x) :: L) g) (y : Hn) : Free ((k, y) :: L) g where
  pos := h.pos
  le := h.le
  none := by
    have := h.none
    rw [findA_cons] at this ⊢
    split at this
    · cases this
    · rename_i e; rw [if_neg e]; exact this
  least j h1 h2 := by
    have := h.least j h1 h2
    rw [findA_cons] at this ⊢
    split at this
    · rename_i e; rw [if_pos e]; rfl
    · rename_i e; rw [if_neg e]; exact this
theorem to_bs' (s : ByteArray) : (⟨(bs s).toArray⟩ : ByteArray) = s := by cases s; rfl
section
variable {c : Pls} {s : Sg} {o : Opr} {N : Nat} {w : World} {R : Hp}
theorem sg_open (h : Sat w (SgHp c s * R)) : Sat w (fsHp c.fb c.mb s.F * (tabHp c.tb c.fb c.bp c.hm s.L s.n * (poolHp c s.P s.tot * (pipesHp c s.P * (snksHp s.L * R))))) := h.perm (by unfold SgHp; ac_rfl)
theorem sg_shut {F : Fs} {L : HL} {n tot : Nat} {P : PL} (h : Sat w (fsHp c.fb c.mb F * (tabHp c.tb c.fb c.bp c.hm L n * (poolHp c P tot * (pipesHp c P * (snksHp L * R)))))) : Sat w (SgHp c ⟨F, L, n, P, tot⟩ * R) := h.perm (by unfold SgHp; ac_rfl)
theorem sg_tab (h : Sat w (SgHp c s * R)) : Sat w (tabHp c.tb c.fb c.bp c.hm s.L s.n * (fsHp c.fb c.mb s.F * (poolHp c s.P s.tot * (pipesHp c s.P * (snksHp s.L * R))))) := h.perm (by unfold SgHp; ac_rfl)
theorem sg_pipe (h : Sat w (SgHp c s * R)) {k : Int} {p : Pp} (hp : findA s.P k = some p) : ∃ X : Hp, Sat w (tabHp c.tb c.fb c.bp c.hm s.L s.n * (Spill.bufX p.bb c.bp 3 4 p.frm p.data * X)) := by
  obtain ⟨X, e1, _⟩ := pipe_open (c := c) hp
  refine ⟨_, h.perm (show _ = tabHp c.tb c.fb c.bp c.hm s.L s.n * (Spill.bufX p.bb c.bp 3 4 p.frm p.data * (fsHp c.fb c.mb s.F * (poolHp c s.P s.tot * (pts p.eb (ebO (p.ends : Int)) * X * (snksHp s.L * R))))) by unfold SgHp; rw [e1]; ac_rfl)⟩
theorem op_File (hN : N ≤ 100) (hI : Inv N s) (ho : OkOp o) (ha : askI o = 0) (h : Sat w (SgHp c s * R)) :
    Calls Tryz.prog 10 #[pp c.tb, .int .i64 o.node, mdV o.m] w fun e w' => ∃ n er : Int, e = .returned (.tuple #[.int .i64 n, .int .i64 er]) ∧ After c s o w R n nilB er w' := by
  have hT := hI.tree
  have H1 := sg_open h
  cases hx : find s.F.L o.node with
  | none =>
    refine (File_none c.tb c.fb c.mb c.bp c.hm s.n s.F s.L o.node o.m hx ho.2.2.1 hT.ok w _ H1).mono ?_
    rintro e w' ⟨rfl, hB⟩
    have hE : statE s.F o.node = fileE s.F o.node o.m := by unfold fileE; rw [hx]
    rw [hE]
    exact ⟨0, _, rfl, s, .file_no ha (by rw [← hE]; unfold statE; rw [hx]; decide), h.below hB, below_ran hB⟩
  | some x =>
    have hE : fileE s.F o.node o.m = if x.kind = 1 then 13 else if x.kind = 3 then 1 else if o.m.r = false ∧ o.m.w = false then 1 else 0 := by unfold fileE; rw [hx]
    rcases hT.kinds _ x hx with hk | hk | hk
    · rw [if_pos hk] at hE
      refine (File_dir c.tb c.fb c.mb c.bp c.hm s.n s.F s.L o.node o.m x hx hk ho.2.2.1 hT.ok w _ H1).mono ?_
      rintro e w' ⟨rfl, hB⟩
      exact ⟨0, 13, rfl, s, by rw [← hE]; exact .file_no ha (by rw [hE]; decide), h.below hB, below_ran hB⟩
    · rw [if_neg (by omega), if_neg (by omega)] at hE
      by_cases hm : o.m.r = false ∧ o.m.w = false
      · rw [if_pos hm] at hE
        refine (File_mode c.tb c.fb c.mb c.bp c.hm s.n s.F s.L o.node o.m x hx hk hm ho.2.2.1 hT.ok w _ H1).mono ?_
        rintro e w' ⟨rfl, hB⟩
        exact ⟨0, 1, rfl, s, by rw [← hE]; exact .file_no ha (by rw [hE]; decide), h.below hB, below_ran hB⟩
      · obtain ⟨g, hg⟩ := free_ex s.L
        have hm' : o.m.r = true ∨ o.m.w = true := by
          cases h1 : o.m.r <;> cases h2 : o.m.w <;> simp_all
        refine (File_calls c.tb c.fb c.mb c.bp c.hm s.n s.F s.L o.node o.m x g ho.2.2.1 hT.ok hx hk hm' hg (by have := hI.lenN; omega) w _ H1).mono ?_
        rintro e w' ⟨⟨rfl, hb, xb, S⟩, hR⟩
        refine ⟨g, 0, rfl, _, .file_ok x g hb xb ha hx hk hm' hg, sg_shut ?_, hR⟩
        rw [snks_cons _ _ _ rfl]
        exact S
    · rw [if_neg (by omega), if_pos hk] at hE
      refine (File_link c.tb c.fb c.mb c.bp c.hm s.n s.F s.L o.node o.m x hx hk ho.2.2.1 hT.ok w _ H1).mono ?_
      rintro e w' ⟨rfl, hB⟩
      exact ⟨0, 1, rfl, s, by rw [← hE]; exact .file_no ha (by rw [hE]; decide), h.below hB, below_ran hB⟩
theorem op_Text (hN : N ≤ 100) (hI : Inv N s) (hd : o.d.size ≤ 100) (ha : askI o = 1) (h : Sat w (SgHp c s * R)) :
    Calls Tryz.prog 15 #[pp c.tb, .string o.d] w fun e w' => ∃ n er : Int, e = .returned (.tuple #[.int .i64 n, .int .i64 er]) ∧ After c s o w R n nilB er w' := by
  obtain ⟨g, hg⟩ := free_ex s.L
  refine (Text_calls c.tb c.fb c.bp c.hm s.n s.L o.d g (by omega) hg (by have := hI.lenN; omega) w _ (sg_tab h)).mono ?_
  rintro e w' ⟨⟨rfl, hb, xb, S⟩, hR⟩
  refine ⟨g, 0, rfl, _, .text g hb xb ha hg, sg_shut ?_, hR⟩
  rw [snks_cons _ _ _ rfl]
  exact S.perm (by ac_rfl)
theorem op_Sink (hN : N ≤ 100) (hI : Inv N s) (ha : askI o = 2) (h : Sat w (SgHp c s * R)) :
    Calls Tryz.prog 17 #[pp c.tb, .int .i64 o.n] w fun e w' => ∃ n er : Int, e = .returned (.tuple #[.int .i64 n, .int .i64 er]) ∧ After c s o w R n nilB er w' := by
  by_cases hm : o.n < 0 ∨ 1048576 < o.n
  · refine (Sink_no c.tb o.n hm w).mono ?_
    rintro e w' ⟨rfl, rfl⟩
    exact ⟨0, 1, rfl, s, .sink_no ha hm, h, Below.refl 0 w⟩
  · obtain ⟨most, hmo⟩ : ∃ most : Nat, o.n = (most : Int) := ⟨o.n.toNat, by omega⟩
    obtain ⟨g, hg⟩ := free_ex s.L
    rw [hmo]
    refine (Sink_calls c.tb c.fb c.bp c.hm s.n s.L most g (by omega) hg (by have := hI.lenN; omega) w _ (sg_tab h)).mono ?_
    rintro e w' ⟨⟨rfl, hb, xb, S⟩, hR⟩
    refine ⟨g, 0, rfl, _, .sink_ok most g hb xb ha hmo (by omega) hg, sg_shut ?_, hR⟩
    have e1 : snksHp (((g : Int), (⟨hb, 1, xb, .sink none none 0 [] most⟩ : Hn)) :: s.L) = bufHp none 0 [] * snksHp s.L := rfl
    rw [e1]
    exact S.perm (by ac_rfl)
theorem op_Pipe (hN : N ≤ 100) (hI : Inv N s) (ha : askI o = 3) (h : Sat w (SgHp c s * R)) :
    Calls Tryz.prog 16 #[pp c.tb] w fun e w' => ∃ a b er : Int, e = .returned (.tuple #[.int .i64 a, .int .i64 b, .int .i64 er]) ∧ (0 ≤ a ∧ a ≤ 1000000) ∧ (0 ≤ b ∧ b ≤ 1000000) ∧ After c s o w R (100 * a + b) nilB er w' := by
  obtain ⟨g1, hg1⟩ := free_ex s.L
  obtain ⟨g2, hg2'⟩ := free_ex (((g1 : Int), (⟨0, 1, 0, .text nilB 0⟩ : Hn)) :: s.L)
  have hg2 : ∀ y, Free (((g1 : Int), y) :: s.L) g2 := fun y => free_any hg2' y
  have hl := hI.lenL
  have b1 := hg1.le
  have b2 := hg2'.le
  simp only [List.length_cons] at b2
  refine (Pipe_calls c.tb c.fb c.bp c.hm s.n _ _ s.P.length s.tot s.L g1 g2 hg1 hg2 (by have := hI.lenN; omega) (by have := hI.lenP; omega) w _ (h.perm (show _ = tabHp c.tb c.fb c.bp c.hm s.L s.n * (Spill.poolX c.bp 40 3 4 (sumA Pp.len s.P) (sumA Pp.use s.P) s.P.length s.tot * (fsHp c.fb c.mb s.F * (pipesHp c s.P * (snksHp s.L * R)))) by unfold SgHp poolHp; ac_rfl))).mono ?_
  rintro e w' ⟨⟨rfl, bb, eb, h1, x1, h2, x2, S⟩, hR⟩
  have hfr : findA s.P (bb : Int) = none := pipe_fresh (c := c) (fun k p hk => (hI.pk k p hk).1) (S.perm (show _ = Spill.bufX bb c.bp 3 4 0 [] * (pipesHp c s.P * (tabHp c.tb c.fb c.bp c.hm _ (s.n + 2) * (Spill.poolX c.bp 40 3 4 (sumA Pp.len s.P) (sumA Pp.use s.P) (s.P.length + 1) s.tot * (pts eb (ebO 2) * (fsHp c.fb c.mb s.F * (snksHp s.L * R)))))) by ac_rfl))
  refine ⟨g1, g2, 0, rfl, by omega, by omega, _, .pipe g1 g2 h1 x1 h2 x2 bb eb ha hg1 hg2 hfr, sg_shut ?_, hR⟩
  rw [snks_cons _ _ _ rfl, snks_cons _ _ _ rfl]
  have e1 : pipesHp c (((bb : Int), (⟨bb, eb, 0, [], true, true⟩ : Pp)) :: s.P) = (Spill.bufX bb c.bp 3 4 0 [] * pts eb (ebO 2)) * pipesHp c s.P := rfl
  have e2 : poolHp c (((bb : Int), (⟨bb, eb, 0, [], true, true⟩ : Pp)) :: s.P) s.tot = Spill.poolX c.bp 40 3 4 (sumA Pp.len s.P) (sumA Pp.use s.P) (s.P.length + 1) s.tot := by
    unfold poolHp
    show Spill.poolX c.bp 40 3 4 (0 + sumA Pp.len s.P) (Pp.use ⟨bb, eb, 0, [], true, true⟩ + sumA Pp.use s.P) (s.P.length + 1) s.tot = _
    rw [Nat.zero_add, show Pp.use ⟨bb, eb, 0, [], true, true⟩ = 0 from (show Spill.cl 3 4 (0 + ([] : List UInt8).length) - Spill.gn 3 4 0 = 0 by decide), Nat.zero_add]
  rw [e1, e2]
  exact S.perm (by ac_rfl)
theorem op_Ref (hN : N ≤ 100) (hI : Inv N s) (ho : OkOp o) (ha : askI o = 4) (h : Sat w (SgHp c s * R)) :
    Calls Tryz.prog 18 #[pp c.tb, .int .i64 o.id] w fun e w' => ∃ er : Int, e = .returned (.int .i64 er) ∧ After c s o w R 0 nilB er w' := by
  cases hy : findA s.L o.id with
  | none =>
    refine (Ref_none c.tb c.fb c.bp c.hm s.n s.L o.id ho.2.1 hy w _ (sg_tab h)).mono ?_
    rintro e w' ⟨rfl, rfl⟩
    exact ⟨18, rfl, s, .ref_no ha hy, h, Below.refl 0 w⟩
  | some y =>
    have hr := hI.refs _ y hy
    refine (Ref_calls c.tb c.fb c.bp c.hm s.n s.L o.id y ho.2.1 hy (by omega) (by omega) w _ (sg_tab h)).mono ?_
    rintro e w' ⟨⟨rfl, S⟩, hR⟩
    refine ⟨0, rfl, _, .ref_ok y ha hy, sg_shut ?_, hR⟩
    rw [snks_same (y' := { y with refs := y.refs + 1 }) hy rfl]
    exact S.perm (by ac_rfl)
theorem op_Unref (hN : N ≤ 100) (hI : Inv N s) (ho : OkOp o) (ha : askI o = 5) (h : Sat w (SgHp c s * R)) :
    Calls Tryz.prog 27 #[pp c.tb, .int .i64 o.id] w fun e w' => ∃ er : Int, e = .returned (.int .i64 er) ∧ After c s o w R 0 nilB er w' := by
  cases hy : findA s.L o.id with
  | none =>
    refine (Unref_none c.tb c.fb c.bp c.hm s.n s.L o.id ho.2.1 hy w _ (sg_tab h)).mono ?_
    rintro e w' ⟨rfl, rfl⟩
    exact ⟨18, rfl, s, .unref_no ha hy, h, Below.refl 0 w⟩
  | some y =>
    have hr := hI.refs _ y hy
    have hth := hI.th _ y hy
    by_cases h2 : 2 ≤ y.refs
    · refine (Unref_more c.tb c.fb c.bp c.hm s.n s.L o.id y ho.2.1 hy h2 (by omega) w _ (sg_tab h)).mono ?_
      rintro e w' ⟨⟨rfl, S⟩, hR⟩
      refine ⟨0, rfl, _, .unref_more y ha hy h2, sg_shut ?_, hR⟩
      rw [snks_same (y' := { y with refs := y.refs - 1 }) hy rfl]
      exact S.perm (by ac_rfl)
    · have h1 : y.refs = 1 := by omega
      unfold ThOk at hth
      cases hyt : y.t with
      | file k a m =>
        rw [hyt] at hth
        obtain ⟨x, hx⟩ := Option.isSome_iff_exists.1 ((hI.tree.only k).2 (by omega))
        have hk2 := (hI.tree.files k x hx).2 hth.1
        refine (Unref_file_one c.tb c.fb c.mb c.bp c.hm s.n s.F s.L o.id k y a m x ho.2.1 hy hyt hI.nd h1 (by unfold I64; omega) hI.tree.ok hx (hI.tree.kids k x hx hk2).2 w _ (sg_tab h)).mono ?_
        rintro e w' ⟨⟨rfl, S⟩, hR⟩
        refine ⟨0, rfl, _, .unref_file y k a m ha hy h1 hyt, sg_shut ?_, hR⟩
        rw [snks_del hy (by rw [hyt]; rfl)]
        exact S.perm (by ac_rfl)
      | text t a =>
        refine (Unref_text_one c.tb c.fb c.bp c.hm s.n s.L o.id y t a ho.2.1 hy hyt hI.nd h1 w _ (sg_tab h)).mono ?_
        rintro e w' ⟨⟨rfl, S⟩, hR⟩
        refine ⟨0, rfl, _, .unref_text y t a ha hy h1 hyt, sg_shut ?_, hR⟩
        rw [snks_del hy (by rw [hyt]; rfl)]
        exact S.perm (by ac_rfl)
      | sink sp q cap l most =>
        obtain ⟨X, e1, _, e3⟩ := focusA (fun x : Hn => snkT x.t) s.L o.id y hy
        have e1' : snksHp s.L = bufHp q cap l * X := by unfold snksHp; rw [e1, hyt]; rfl
        have e3' : snksHp (delA s.L o.id) = X := e3
        have H2 := sg_tab h
        rw [e1'] at H2
        have H3 := (H2.perm (show _ = tabHp c.tb c.fb c.bp c.hm s.L s.n * (fsHp c.fb c.mb s.F * (poolHp c s.P s.tot * (pipesHp c s.P * (X * R)))) * bufHp q cap l by ac_rfl)).left
        refine (Unref_sink_one c.tb c.fb c.bp c.hm s.n s.L o.id y sp q cap l most ho.2.1 hy hyt hI.nd h1 w _ H3).mono ?_
        rintro e w' ⟨⟨rfl, S⟩, hR⟩
        refine ⟨0, rfl, _, .unref_sink y sp q cap l most ha hy h1 hyt, sg_shut ?_, hR⟩
        rw [e3']
        exact S.perm (by ac_rfl)
      | reader bb eb =>
        rw [hyt] at hth
        obtain ⟨p, hp, rfl, hrd⟩ := hth
        obtain ⟨hpk, hpo, hpt⟩ := hI.pk _ p hp
        have hbb : p.bb = bb := by omega
        subst hbb
        obtain ⟨X, q1, q2, q3⟩ := pipe_open (c := c) hp
        have hS := hI.held
        have hsum := sumA_get Pp.len s.P _ p hp
        have hlen : p.data.length = Pp.len p := rfl
        have htot := hI.tot
        have hlenP := hI.lenP
        have hdl := delA_len s.P (p.bb : Int) (by rw [hp]; rfl)
        have hsd : snksHp (delA s.L o.id) = snksHp s.L := snks_del hy (by rw [hyt]; rfl)
        cases hw : p.wr with
        | true =>
          have he : (p.ends : Int) = 2 := by unfold Pp.ends; rw [hrd, hw]; rfl
          rw [he] at q1
          refine (Unref_reader_two c.tb c.fb c.bp c.hm s.n s.L o.id y p.bb p.eb ho.2.1 hy hyt hI.nd h1 w (fsHp c.fb c.mb s.F * (poolHp c s.P s.tot * (Spill.bufX p.bb c.bp 3 4 p.frm p.data * (X * (snksHp s.L * R))))) ((sg_tab h).perm (by rw [q1]; ac_rfl))).mono ?_
          rintro e w' ⟨⟨rfl, S⟩, hR⟩
          refine ⟨0, rfl, _, .unref_reader y p.bb p.eb p ha hy h1 hyt hp, sg_shut ?_, hR⟩
          have ec : closeR s.P p.bb p = updA s.P (p.bb : Int) { p with rd := false } := if_pos hw
          rw [ec, hsd, q2, pool_upd hp]
          rw [pool_get hp] at S
          refine S.perm ?_
          have e9 : pipeHp c.bp { p with rd := false } = Spill.bufX p.bb c.bp 3 4 p.frm p.data * pts p.eb (ebO 1) := by
            unfold pipeHp
            rw [show ((Pp.ends { p with rd := false } : Nat) : Int) = 1 by unfold Pp.ends; dsimp only; rw [hw]; rfl]
          rw [e9]
          ac_rfl
        | false =>
          have he : (p.ends : Int) = 1 := by unfold Pp.ends; rw [hrd, hw]; rfl
          rw [he] at q1
          have huse : sumA Pp.use (delA s.P (p.bb : Int)) ≤ 1000000000 := by
            have H9 := sg_open h
            rw [pool_get hp] at H9
            obtain ⟨pp1, cap1, F1, hle, _⟩ := Spill.poolX_out (H9.perm (show _ = Spill.poolX c.bp 40 3 4 _ _ _ s.tot * (fsHp c.fb c.mb s.F * (tabHp c.tb c.fb c.bp c.hm s.L s.n * (pipesHp c s.P * (snksHp s.L * R)))) by ac_rfl))
            omega
          refine (Unref_reader_one c.tb c.fb c.bp c.hm s.n (p.data.length + sumA Pp.len (delA s.P (p.bb : Int))) (sumA Pp.use (delA s.P (p.bb : Int))) (delA s.P (p.bb : Int)).length s.tot p.frm s.L o.id y p.bb p.eb p.data ho.2.1 hy hyt hI.nd h1 (by omega) (by omega) (by omega) huse (by omega) (by omega) w (fsHp c.fb c.mb s.F * (X * (snksHp s.L * R))) ((sg_tab h).perm (by rw [q1, pool_get hp]; ac_rfl))).mono ?_
          rintro e w' ⟨⟨rfl, S⟩, hR⟩
          refine ⟨0, rfl, _, .unref_reader y p.bb p.eb p ha hy h1 hyt hp, sg_shut ?_, hR⟩
          have ec : closeR s.P p.bb p = delA s.P (p.bb : Int) := if_neg (by rw [hw]; decide)
          rw [ec, hsd, q3]
          rw [Nat.add_sub_cancel_left] at S
          exact S.perm (by unfold poolHp; ac_rfl)
      | writer bb eb =>
        rw [hyt] at hth
        obtain ⟨p, hp, rfl, hwr⟩ := hth
        obtain ⟨hpk, hpo, hpt⟩ := hI.pk _ p hp
        have hbb : p.bb = bb := by omega
        subst hbb
        obtain ⟨X, q1, q2, q3⟩ := pipe_open (c := c) hp
        have hS := hI.held
        have hsum := sumA_get Pp.len s.P _ p hp
        have hlen : p.data.length = Pp.len p := rfl
        have htot := hI.tot
        have hlenP := hI.lenP
        have hdl := delA_len s.P (p.bb : Int) (by rw [hp]; rfl)
        have hsd : snksHp (delA s.L o.id) = snksHp s.L := snks_del hy (by rw [hyt]; rfl)
        cases hw : p.rd with
        | true =>
          have he : (p.ends : Int) = 2 := by unfold Pp.ends; rw [hwr, hw]; rfl
          rw [he] at q1
          refine (Unref_writer_two c.tb c.fb c.bp c.hm s.n s.L o.id y p.bb p.eb ho.2.1 hy hyt hI.nd h1 w (fsHp c.fb c.mb s.F * (poolHp c s.P s.tot * (Spill.bufX p.bb c.bp 3 4 p.frm p.data * (X * (snksHp s.L * R))))) ((sg_tab h).perm (by rw [q1]; ac_rfl))).mono ?_
          rintro e w' ⟨⟨rfl, S⟩, hR⟩
          refine ⟨0, rfl, _, .unref_writer y p.bb p.eb p ha hy h1 hyt hp, sg_shut ?_, hR⟩
          have ec : closeW s.P p.bb p = updA s.P (p.bb : Int) { p with wr := false } := if_pos hw
          rw [ec, hsd, q2, pool_upd hp]
          rw [pool_get hp] at S
          refine S.perm ?_
          have e9 : pipeHp c.bp { p with wr := false } = Spill.bufX p.bb c.bp 3 4 p.frm p.data * pts p.eb (ebO 1) := by
            unfold pipeHp
            rw [show ((Pp.ends { p with wr := false } : Nat) : Int) = 1 by unfold Pp.ends; dsimp only; rw [hw]; rfl]
          rw [e9]
          ac_rfl
        | false =>
          have he : (p.ends : Int) = 1 := by unfold Pp.ends; rw [hwr, hw]; rfl
          rw [he] at q1
          have huse : sumA Pp.use (delA s.P (p.bb : Int)) ≤ 1000000000 := by
            have H9 := sg_open h
            rw [pool_get hp] at H9
            obtain ⟨pp1, cap1, F1, hle, _⟩ := Spill.poolX_out (H9.perm (show _ = Spill.poolX c.bp 40 3 4 _ _ _ s.tot * (fsHp c.fb c.mb s.F * (tabHp c.tb c.fb c.bp c.hm s.L s.n * (pipesHp c s.P * (snksHp s.L * R)))) by ac_rfl))
            omega
          refine (Unref_writer_one c.tb c.fb c.bp c.hm s.n (p.data.length + sumA Pp.len (delA s.P (p.bb : Int))) (sumA Pp.use (delA s.P (p.bb : Int))) (delA s.P (p.bb : Int)).length s.tot p.frm s.L o.id y p.bb p.eb p.data ho.2.1 hy hyt hI.nd h1 (by omega) (by omega) (by omega) huse (by omega) (by omega) w (fsHp c.fb c.mb s.F * (X * (snksHp s.L * R))) ((sg_tab h).perm (by rw [q1, pool_get hp]; ac_rfl))).mono ?_
          rintro e w' ⟨⟨rfl, S⟩, hR⟩
          refine ⟨0, rfl, _, .unref_writer y p.bb p.eb p ha hy h1 hyt hp, sg_shut ?_, hR⟩
          have ec : closeW s.P p.bb p = delA s.P (p.bb : Int) := if_neg (by rw [hw]; decide)
          rw [ec, hsd, q3]
          rw [Nat.add_sub_cancel_left] at S
          exact S.perm (by unfold poolHp; ac_rfl)
end
end Go.Proofs.YtljlpkeddbfpaaaGreatDoor.Hd

namespace Go.Proofs.YtljlpkeddbfpaaaGreatDoor.Hd
open Go.RowKit Go.Maps Go.Proofs.YtljlpkeddbfpaaaGreatDoor Go.Proofs.YtljlpkeddbfpaaaGreatDoor.Hp
set_option linter.unusedVariables false

section
variable {c : Pls} {s : Sg} {o : Opr} {N : Nat} {w : World} {R : Hp}
theorem use_small {k : Int} {p : Pp} (hp : findA s.P k = some p) (ht : s.tot ≤ 1000000000) (h : Sat w (SgHp c s * R)) : sumA Pp.use (delA s.P k) ≤ 1000000000 := by
  have H9 := sg_open h
  rw [pool_get hp] at H9
  obtain ⟨pp1, cap1, F1, hle, _⟩ := Spill.poolX_out (H9.perm (show _ = Spill.poolX c.bp 40 3 4 _ _ _ s.tot * (fsHp c.fb c.mb s.F * (tabHp c.tb c.fb c.bp c.hm s.L s.n * (pipesHp c s.P * (snksHp s.L * R)))) by ac_rfl))
  omega
theorem op_Read (hN : N ≤ 100) (hI : Inv N s) (ho : OkOp o) (ha : askI o = 6) (h : Sat w (SgHp c s * R)) :
    Calls Tryz.prog 19 #[pp c.tb, .int .i64 o.id, .int .i64 o.n] w fun e w' => ∃ (t : ByteArray) (er : Int), e = .returned (.tuple #[.string t, .int .i64 er]) ∧ After c s o w R 0 t er w' := by
  cases hy : findA s.L o.id with
  | none =>
    refine (TRead_none c.tb c.fb c.bp c.hm s.n s.L o.id o.n ho.2.1 hy w _ (sg_tab h)).mono ?_
    rintro e w' ⟨rfl, rfl⟩
    exact ⟨nilB, 18, rfl, s, .read_no ha hy, h, Below.refl 0 w⟩
  | some y =>
    have hth := hI.th _ y hy
    have htot := hI.tot
    have hn2 := ho.2.2.2.1.2
    unfold ThOk at hth
    have no : readable y.t = false → ∀ {e : Ending} {w' : World}, e = .returned (.tuple #[.string ⟨#[]⟩, .int .i64 19]) ∧ Below w.heap.size w w' → ∃ (t : ByteArray) (er : Int), e = .returned (.tuple #[.string t, .int .i64 er]) ∧ After c s o w R 0 t er w' :=
      fun hr e w' hB => ⟨nilB, 19, hB.1, s, .read_mode y ha hy hr, h.below hB.2, below_ran hB.2⟩
    have neg : readable y.t = true → o.n < 0 → ∀ {e : Ending} {w' : World}, e = .returned (.tuple #[.string ⟨#[]⟩, .int .i64 1]) ∧ Below w.heap.size w w' → ∃ (t : ByteArray) (er : Int), e = .returned (.tuple #[.string t, .int .i64 er]) ∧ After c s o w R 0 t er w' :=
      fun hr hn e w' hB => ⟨nilB, 1, hB.1, s, .read_neg y ha hy hr hn, h.below hB.2, below_ran hB.2⟩
    cases hyt : y.t with
    | file k a m =>
      rw [hyt] at hth
      cases hm : m.r with
      | false =>
        refine (TRead_no_file c.tb c.fb c.bp c.hm s.n s.L o.id y k a m ho.2.1 hy hyt o.n hm w _ (sg_tab h)).mono ?_
        exact fun e w' hB => no (by rw [hyt]; exact hm) hB
      | true =>
        by_cases hn : o.n < 0
        · refine (TRead_neg_file c.tb c.fb c.bp c.hm s.n s.L o.id y k a m ho.2.1 hy hyt o.n hn hm w _ (sg_tab h)).mono ?_
          exact fun e w' hB => neg (by rw [hyt]; exact hm) hn hB
        · obtain ⟨q, hq⟩ : ∃ q : Nat, o.n = (q : Int) := ⟨o.n.toNat, by omega⟩
          obtain ⟨x, hx⟩ := Option.isSome_iff_exists.1 ((hI.tree.only k).2 (by omega))
          have hk2 := (hI.tree.files k x hx).2 hth.1
          rw [hq]
          refine (TRead_file c.tb c.fb c.mb c.bp c.hm s.n s.F s.L o.id k y a m x q ho.2.1 hy hyt hm (by unfold I64; omega) (by omega) (by omega) hI.tree.ok hx (by omega) w _ (sg_open h)).mono ?_
          rintro e w' ⟨⟨rfl, S⟩, hR⟩
          refine ⟨_, 0, rfl, _, .read_file y k a q m x ha hy hyt hm hq hx, sg_shut ?_, hR⟩
          rw [snks_upd (y' := { y with t := .file k (a + (readB x.text a q).size) m }) hy (by rw [hyt]; rfl) rfl]
          exact S
    | text t a =>
      rw [hyt] at hth
      by_cases hn : o.n < 0
      · refine (TRead_neg_text c.tb c.fb c.bp c.hm s.n s.L o.id y t a ho.2.1 hy hyt o.n hn w _ (sg_tab h)).mono ?_
        exact fun e w' hB => neg (by rw [hyt]; rfl) hn hB
      · obtain ⟨q, hq⟩ : ∃ q : Nat, o.n = (q : Int) := ⟨o.n.toNat, by omega⟩
        rw [hq]
        refine (TRead_text c.tb c.fb c.bp c.hm s.n s.L o.id y t a q ho.2.1 hy hyt hth.1 (by omega) (by omega) w _ (sg_tab h)).mono ?_
        rintro e w' ⟨⟨rfl, S⟩, hR⟩
        refine ⟨_, 0, rfl, _, .read_text y t a q ha hy hyt hq, sg_shut ?_, hR⟩
        rw [snks_upd (y' := { y with t := .text t (a + (readB t a q).size) }) hy (by rw [hyt]; rfl) rfl]
        exact S.perm (by ac_rfl)
    | sink sp q cap l most =>
      refine (TRead_no_sink c.tb c.fb c.bp c.hm s.n s.L o.id y sp q cap l most ho.2.1 hy hyt o.n w _ (sg_tab h)).mono ?_
      exact fun e w' hB => no (by rw [hyt]; rfl) hB
    | reader bb eb =>
      rw [hyt] at hth
      obtain ⟨p, hp, rfl, hrd⟩ := hth
      obtain ⟨hpk, hpo, hpt⟩ := hI.pk _ p hp
      have hbb : p.bb = bb := by omega
      subst hbb
      by_cases hn : o.n < 0
      · obtain ⟨X, HX⟩ := sg_pipe h hp
        refine (TRead_neg_reader c.tb c.fb c.bp c.hm s.n s.L o.id y p.bb p.eb c.bp p.frm p.data ho.2.1 hy hyt (by omega) o.n hn w _ HX).mono ?_
        exact fun e w' hB => neg (by rw [hyt]; rfl) hn hB
      · obtain ⟨q, hq⟩ : ∃ q : Nat, o.n = (q : Int) := ⟨o.n.toNat, by omega⟩
        obtain ⟨X, q1, q2, q3⟩ := pipe_open (c := c) hp
        have hS := hI.held
        have hsum := sumA_get Pp.len s.P _ p hp
        have hlen : p.data.length = Pp.len p := rfl
        rw [hq]
        refine (TRead_reader c.tb c.fb c.bp c.hm s.n (p.data.length + sumA Pp.len (delA s.P (p.bb : Int))) (sumA Pp.use (delA s.P (p.bb : Int))) ((delA s.P (p.bb : Int)).length + 1) s.tot p.frm s.L o.id y p.bb p.eb p.data q ho.2.1 hy hyt (by omega) (by omega) (by omega) (by omega) (use_small hp (by omega) h) (by omega) w (fsHp c.fb c.mb s.F * (pts p.eb (ebO (p.ends : Int)) * (X * (snksHp s.L * R)))) ((sg_tab h).perm (by rw [q1, pool_get hp]; ac_rfl))).mono ?_
        rintro e w' ⟨⟨rfl, S⟩, hR⟩
        refine ⟨_, 0, rfl, _, .read_pipe y p.bb p.eb q p ha hy hyt hq hp, sg_shut ?_, hR⟩
        obtain ⟨r, hr⟩ : ∃ r, r = min q p.data.length := ⟨_, rfl⟩
        rw [← hr] at S ⊢
        have hrl : r ≤ p.data.length := by omega
        rw [q2, pool_upd hp]
        have e9 : pipeHp c.bp { p with frm := p.frm + r, data := p.data.drop r } = Spill.bufX p.bb c.bp 3 4 (p.frm + r) (p.data.drop r) * pts p.eb (ebO (p.ends : Int)) := rfl
        rw [e9]
        dsimp only
        rw [List.length_drop, show p.frm + r + (p.data.length - r) = p.frm + p.data.length by omega, show p.data.length - r + sumA Pp.len (delA s.P (p.bb : Int)) = p.data.length + sumA Pp.len (delA s.P (p.bb : Int)) - r by omega]
        exact S.perm (by ac_rfl)
    | writer bb eb =>
      rw [hyt] at hth
      obtain ⟨p, hp, rfl, hwr⟩ := hth
      obtain ⟨hpk, hpo, hpt⟩ := hI.pk _ p hp
      have hbb : p.bb = bb := by omega
      subst hbb
      obtain ⟨X, HX⟩ := sg_pipe h hp
      refine (TRead_no_writer c.tb c.fb c.bp c.hm s.n s.L o.id y p.bb p.eb c.bp p.frm p.data ho.2.1 hy hyt (by omega) o.n w _ HX).mono ?_
      exact fun e w' hB => no (by rw [hyt]; rfl) hB
theorem op_Write (hN : N ≤ 100) (hI : Inv N s) (ho : OkOp o) (hd : o.d.size ≤ 100) (ha : askI o = 7) (h : Sat w (SgHp c s * R)) :
    Calls Tryz.prog 11 #[pp c.tb, .int .i64 o.id, .string o.d] w fun e w' => ∃ er : Int, e = .returned (.int .i64 er) ∧ After c s o w R 0 nilB er w' := by
  cases hy : findA s.L o.id with
  | none =>
    refine (TWrite_none c.tb c.fb c.bp c.hm s.n s.L o.id o.d ho.2.1 hy w _ (sg_tab h)).mono ?_
    rintro e w' ⟨rfl, rfl⟩
    exact ⟨18, rfl, s, .write_no ha hy, h, Below.refl 0 w⟩
  | some y =>
    have hth := hI.th _ y hy
    have htot := hI.tot
    unfold ThOk at hth
    have no : writable y.t = false → ∀ {e : Ending} {w' : World}, e = .returned (.int .i64 19) ∧ Below w.heap.size w w' → ∃ er : Int, e = .returned (.int .i64 er) ∧ After c s o w R 0 nilB er w' :=
      fun hr e w' hB => ⟨19, hB.1, s, .write_mode y ha hy hr, h.below hB.2, below_ran hB.2⟩
    cases hyt : y.t with
    | file k a m =>
      rw [hyt] at hth
      cases hm : m.w with
      | false =>
        refine (TWrite_no_file c.tb c.fb c.bp c.hm s.n s.L o.id y k a m ho.2.1 hy hyt o.d hm w _ (sg_tab h)).mono ?_
        exact fun e w' hB => no (by rw [hyt]; exact hm) hB
      | true =>
        obtain ⟨x, hx⟩ := Option.isSome_iff_exists.1 ((hI.tree.only k).2 (by omega))
        have hk2 := (hI.tree.files k x hx).2 hth.1
        have hu := hI.tree.used
        have hr := hI.tree.room
        refine (TWrite_file c.tb c.fb c.mb c.bp c.hm s.n s.F s.L o.id k y a m x o.d ho.2.1 hy hyt hm (by unfold I64; omega) (by omega) (by omega) hI.tree.ok hx hk2 (hI.tree.kids k x hx hk2).1 (by omega) (by omega) w _ (sg_open h)).mono ?_
        rintro e w' ⟨⟨rfl, S⟩, hR⟩
        refine ⟨_, rfl, _, .write_file y k a m x ha hy hyt hm hx, sg_shut ?_, hR⟩
        rw [snks_upd (y' := { y with t := .file k (atN s.F k x a m o.d) m }) hy (by rw [hyt]; rfl) rfl]
        exact S
    | text t a =>
      refine (TWrite_no_text c.tb c.fb c.bp c.hm s.n s.L o.id y t a ho.2.1 hy hyt o.d w _ (sg_tab h)).mono ?_
      exact fun e w' hB => no (by rw [hyt]; rfl) hB
    | sink sp q cap l most =>
      rw [hyt] at hth
      obtain ⟨X, e1, e2, _⟩ := focusA (fun x : Hn => snkT x.t) s.L o.id y hy
      have e1' : snksHp s.L = bufHp q cap l * X := by unfold snksHp; rw [e1, hyt]; rfl
      have H2 := sg_tab h
      rw [e1'] at H2
      refine (TWrite_sink c.tb c.fb c.bp c.hm s.n s.L o.id y sp q cap l most o.d ho.2.1 hy hyt hth.1 hth.2.1 hth.2.2 (by omega) w _ (H2.perm (show _ = tabHp c.tb c.fb c.bp c.hm s.L s.n * (bufHp q cap l * (fsHp c.fb c.mb s.F * (poolHp c s.P s.tot * (pipesHp c s.P * (X * R))))) by ac_rfl))).mono ?_
      rintro e w' ⟨⟨rfl, sp', q', cap', hsp, S⟩, hR⟩
      refine ⟨_, rfl, _, .write_sink y sp q sp' q' cap cap' l most ha hy hyt hsp, sg_shut ?_, hR⟩
      have e2' : snksHp (updA s.L o.id { y with t := .sink sp' q' cap' (skL l most o.d) most }) = bufHp q' cap' (skL l most o.d) * X := e2 _
      rw [e2']
      exact S.perm (by ac_rfl)
    | reader bb eb =>
      rw [hyt] at hth
      obtain ⟨p, hp, rfl, hrd⟩ := hth
      obtain ⟨hpk, hpo, hpt⟩ := hI.pk _ p hp
      have hbb : p.bb = bb := by omega
      subst hbb
      obtain ⟨X, HX⟩ := sg_pipe h hp
      refine (TWrite_no_reader c.tb c.fb c.bp c.hm s.n s.L o.id y p.bb p.eb c.bp p.frm p.data ho.2.1 hy hyt (by omega) o.d w _ HX).mono ?_
      exact fun e w' hB => no (by rw [hyt]; rfl) hB
    | writer bb eb =>
      rw [hyt] at hth
      obtain ⟨p, hp, rfl, hwr⟩ := hth
      obtain ⟨hpk, hpo, hpt⟩ := hI.pk _ p hp
      have hbb : p.bb = bb := by omega
      subst hbb
      obtain ⟨X, q1, q2, q3⟩ := pipe_open (c := c) hp
      have hS := hI.held
      have hsum := sumA_get Pp.len s.P _ p hp
      have hlen : p.data.length = Pp.len p := rfl
      have hbs := bs_length o.d
      by_cases hf : 40 < sumA Pp.len s.P + o.d.size
      · refine (TWrite_writer_full c.tb c.fb c.bp c.hm s.n (sumA Pp.len s.P) (sumA Pp.use s.P) s.P.length s.tot p.frm s.L o.id y p.bb p.eb p.data o.d ho.2.1 hy hyt hf hS (by omega) w (fsHp c.fb c.mb s.F * (pts p.eb (ebO (p.ends : Int)) * (X * (snksHp s.L * R)))) ((sg_tab h).perm (by unfold poolHp; rw [q1]; ac_rfl))).mono ?_
        rintro e w' ⟨⟨rfl, S⟩, hR⟩
        refine ⟨41, rfl, s, .write_full y p.bb p.eb p ha hy hyt hp hf, ?_, hR⟩
        have : Sat w' (SgHp c ⟨s.F, s.L, s.n, s.P, s.tot⟩ * R) := sg_shut (by rw [q1]; unfold poolHp; exact S.perm (by ac_rfl))
        exact this
      · have hW := TWrite_writer c.tb c.fb c.bp c.hm s.n (p.data.length + sumA Pp.len (delA s.P (p.bb : Int))) (sumA Pp.use (delA s.P (p.bb : Int))) ((delA s.P (p.bb : Int)).length + 1) s.tot p.frm s.L o.id y p.bb p.eb p.data (bs o.d) ho.2.1 hy hyt (by omega) (by omega) (use_small hp (by omega) h) (by omega) w (fsHp c.fb c.mb s.F * (pts p.eb (ebO (p.ends : Int)) * (X * (snksHp s.L * R)))) ((sg_tab h).perm (by rw [q1, pool_get hp]; ac_rfl))
        rw [to_bs'] at hW
        refine hW.mono ?_
        rintro e w' ⟨⟨rfl, S⟩, hR⟩
        refine ⟨0, rfl, _, .write_pipe y p.bb p.eb p ha hy hyt hp (by omega), sg_shut ?_, hR⟩
        rw [q2, pool_upd hp]
        have e9 : pipeHp c.bp { p with data := p.data ++ bs o.d } = Spill.bufX p.bb c.bp 3 4 p.frm (p.data ++ bs o.d) * pts p.eb (ebO (p.ends : Int)) := rfl
        rw [e9]
        dsimp only
        rw [← hbs, show (p.data ++ bs o.d).length + sumA Pp.len (delA s.P (p.bb : Int)) = p.data.length + sumA Pp.len (delA s.P (p.bb : Int)) + (bs o.d).length by rw [List.length_append]; omega]
        exact S.perm (by ac_rfl)
/-- does, at the machine. -/
theorem does_step (x y : Value) (hN : N ≤ 100) (hI : Inv N s) (ho : OkOp o) (hd : o.d.size ≤ 100) (h : Sat w (SgHp c s * R)) :
    Calls Tryz.prog 22 #[worldV x y (pp c.tb), opA o] w fun e w' => ∃ (n : Int) (t : ByteArray) (er : Int), e = .returned (.tuple #[.int .i64 n, .string t, .int .i64 er]) ∧ After c s o w R n t er w' := by
  have h2 := ((h.alloc (woO x y (pp c.tb))).alloc (opO o)).perm (show _ = SgHp c s * (pts (w.alloc (woO x y (pp c.tb))).heap.size (opO o) * (pts w.heap.size (woO x y (pp c.tb)) * R)) by ac_rfl)
  have hr : Ran w ((w.alloc (woO x y (pp c.tb))).alloc (opO o)) := Ran.new (Ran.new (Below.refl 0 w) _) _
  have back : ∀ n t er w', After c s o ((w.alloc (woO x y (pp c.tb))).alloc (opO o)) (pts (w.alloc (woO x y (pp c.tb))).heap.size (opO o) * (pts w.heap.size (woO x y (pp c.tb)) * R)) n t er w' → After c s o w R n t er w' := by
    rintro n t er w' ⟨s', hs, S, hR⟩
    exact ⟨s', hs, (S.perm (show _ = pts (w.alloc (woO x y (pp c.tb))).heap.size (opO o) * pts w.heap.size (woO x y (pp c.tb)) * (SgHp c s' * R) by ac_rfl)).right, Below.trans hr hR⟩
  rcases askI_cases o with ha | ha | ha | ha | ha | ha | ha | ha
  · exact does_File o x y _ w _ ha ((op_File hN hI ho ha h2).mono fun e w' ⟨n, er, he, hA⟩ => ⟨n, er, he, back _ _ _ _ hA⟩)
  · exact does_Text o x y _ w _ ha ((op_Text hN hI hd ha h2).mono fun e w' ⟨n, er, he, hA⟩ => ⟨n, er, he, back _ _ _ _ hA⟩)
  · exact does_Sink o x y _ w _ ha ((op_Sink hN hI ha h2).mono fun e w' ⟨n, er, he, hA⟩ => ⟨n, er, he, back _ _ _ _ hA⟩)
  · exact does_Pipe o x y _ w _ ha ((op_Pipe hN hI ha h2).mono fun e w' ⟨a, b, er, he, h1, h2, hA⟩ => ⟨a, b, er, he, h1, h2, back _ _ _ _ hA⟩)
  · exact does_Ref o x y _ w _ ha ((op_Ref hN hI ho ha h2).mono fun e w' ⟨er, he, hA⟩ => ⟨er, he, back _ _ _ _ hA⟩)
  · exact does_Unref o x y _ w _ ha ((op_Unref hN hI ho ha h2).mono fun e w' ⟨er, he, hA⟩ => ⟨er, he, back _ _ _ _ hA⟩)
  · exact does_Read o x y _ w _ ha ((op_Read hN hI ho ha h2).mono fun e w' ⟨t, er, he, hA⟩ => ⟨t, er, he, back _ _ _ _ hA⟩)
  · exact does_Write o x y _ w _ ha ((op_Write hN hI ho hd ha h2).mono fun e w' ⟨er, he, hA⟩ => ⟨er, he, back _ _ _ _ hA⟩)
end
end Go.Proofs.YtljlpkeddbfpaaaGreatDoor.Hd

