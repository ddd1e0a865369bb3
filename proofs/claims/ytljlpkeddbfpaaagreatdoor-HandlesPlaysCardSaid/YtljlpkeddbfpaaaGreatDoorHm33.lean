/- HandlesPlays, part 33 of 34: the texts HdQq HdQs HdQt, joined by a program. -/
import Derived.Test.YtljlpkeddbfpaaaGreatDoorHm32
import Derived.Test.YtljlpkeddbfpaaaGreatDoorHm15
import Derived.Test.YtljlpkeddbfpaaaGreatDoorRows
import Derived.ProofKit
import Derived.OpenShut
import Derived.ShutString
import Derived.ChangeOld
import Derived.Deep.Slices
import Derived.Lib.SmallJoins
import Derived.Deep.Strs
import Derived.LaidMore
import Derived.Lay
import Derived.Handed
import Derived.Shelf.Strings.Shaped
namespace Go.Proofs.YtljlpkeddbfpaaaGreatDoor.Hd
open Go.RowKit Go.Maps Go.Proofs.YtljlpkeddbfpaaaGreatDoor Go.Proofs.YtljlpkeddbfpaaaGreatDoor.Hp
set_option linter.unusedVariables false
attribute [local go_sem] Oper.semAt_some

set_option maxRecDepth 100000 in
set_option maxHeartbeats 4000000 in
theorem Show_calls {w : World} {fb mb : Nat} {F : Fs} {R : Hp} {x0 : Nd} {kd : Kd} (hx : find F.L 1 = some x0) (hk : x0.kids = some kd) (hM : kd.M = kidsM) (hn : kd.sz ≤ 1000000) (hok : ∀ k (hk : k < kidsE.length), ∃ y, KdOk F kidsE[k] y) (hg : Glob R) (h : Sat w (fsHp fb mb F * R)) :
    Calls Tryz.prog 58 #[pp fb] w fun e w' => (e = .returned (.string (ba (linesF ⟨#[]⟩ F kidsE))) ∧ Sat w' (fsHp fb mb F * R)) ∧ Ran w w' := by
  have S1 := h.alloc (bdO none none 0 0)
  have S2 := buf_start S1
  have HS := Lib.hid (show_root w.heap.size ⟨#[]⟩ (Nat.zero_le _) hx hk hM hn (by unfold I64; omega) hok hg (S2.perm (show _ = fsHp fb mb F * (pts w.heap.size (bdO none none 0 0) * (bufHp none 0 [] * R)) by ac_rfl)))
  have R1 := Lib.hid (Ran.new (Below.refl 0 w) (bdO none none 0 0))
  have hln := linesF_len (path := ⟨#[]⟩) (F := F) kidsE hok (Nat.zero_le _)
  obtain ⟨l, hl⟩ : ∃ l, l = linesF ⟨#[]⟩ F kidsE := ⟨_, rfl⟩
  rw [← hl] at HS hln ⊢
  have hl4 : l.length ≤ 1000000000 := Nat.le_trans hln (by show 10000 * 4 ≤ _; omega)
  clear h S1 S2 hx hk hM hok hg hl hln
  go_enter Tryz.func58, Tryz.ntmps58
  go_wp2_with fail
  refine HS.out.mono ?_
  rintro e w2 ⟨⟨rfl, sp, q, cap, hsp, S3⟩, R3⟩
  have HB := Lib.hid (ostring_calls w.heap.size sp q cap l hl4 w2 _ (S3.perm (show _ = pts w.heap.size (bdO sp q l.length cap) * (bufHp q cap l * (fsHp fb mb F * R)) by ac_rfl)))
  have R3 := Lib.hid (Below.trans R1.out R3)
  clear HS S3 R1
  go_wp2_with fail
  refine HB.out.mono ?_
  rintro e w3 ⟨⟨rfl, S4⟩, R4⟩
  have S4 := Lib.hid S4.right.right
  have R4 := Lib.hid (Below.trans R3.out R4)
  clear HB R3
  go_wp2_with fail
  go_ret
  exact ⟨⟨rfl, S4.out⟩, R4.out⟩
set_option maxRecDepth 100000 in
set_option maxHeartbeats 4000000 in
theorem RShow_calls {w : World} {c : RF} {L : List DN} {E : List EN} {R : Hp} (hi : 1 < L.length) (hkn : L[1].kn = E.length) (hE : E.length ≤ 100) (hok : ∀ k (hk : k < E.length), ∃ j, NmOk L E[k] j) (h : Sat w (rfHp c L * (enA L[1].kp L[1].kc E * R))) :
    Calls Tryz.prog 59 #[pp c.fb] w fun e w' => (e = .returned (.string (ba (linesE ⟨#[]⟩ L E))) ∧ Sat w' (rfHp c L * (enA L[1].kp L[1].kc E * R))) ∧ Ran w w' := by
  have HS := Lib.hid (rshow_calls (i := 1) ⟨#[]⟩ (Nat.zero_le _) hi hkn hE hok h)
  clear h hkn hok
  go_enter Tryz.func59, Tryz.ntmps59
  go_wp2_with fail
  refine HS.out.mono ?_
  rintro e w2 ⟨⟨rfl, S2⟩, R2⟩
  have S2 := Lib.hid (And.intro S2 R2)
  clear HS
  go_wp2_with fail
  go_ret
  exact ⟨⟨rfl, S2.out.1⟩, S2.out.2⟩
section
variable {n : Nat} {s : Sg} {d : Dg} {c : Pls} {w : World} {R : Hp}
theorem kids_nodes (hT : TreeOk s.F) (hr : Rel n s d) (k : Nat) (hk : k < kidsE.length) : ∃ y, KdOk s.F kidsE[k] y ∧ ∃ j, NmOk d.N kidsE[k] j ∧ kindD d.N kidsE[k].node = y.kind ∧ textN d.N kidsE[k].node = y.text := by
  have hnode : ∃ j : Nat, kidsE[k].node = (j : Int) ∧ (j = 2 ∨ j = 3 ∨ j = 4 ∨ j = 5) ∧ kidsE[k].name.size ≤ 100 := by
    have h4 : k < 4 := hk
    have : k = 0 ∨ k = 1 ∨ k = 2 ∨ k = 3 := by omega
    rcases this with rfl | rfl | rfl | rfl
    · exact ⟨2, rfl, by omega, by show 1 ≤ 100; omega⟩
    · exact ⟨3, rfl, by omega, by show 1 ≤ 100; omega⟩
    · exact ⟨5, rfl, by omega, by show 1 ≤ 100; omega⟩
    · exact ⟨4, rfl, by omega, by show 1 ≤ 100; omega⟩
  obtain ⟨j, e, hj, hnm⟩ := hnode
  obtain ⟨y, hy⟩ := Option.isSome_iff_exists.1 ((hT.only (j : Int)).2 (by omega))
  have hjl : j < d.N.length := by rw [hr.nl.len]; omega
  have hnd := hr.nl.at' j y hjl hy
  have hkd := hT.kinds _ y hy
  have hkn := hr.nl.kn j hjl
  rw [if_neg (by omega)] at hkn
  refine ⟨y, ⟨by rw [e]; exact hy, by rw [e]; unfold I64; omega, hkd, fun h1 => ?_, hT.text _ y hy, hnm⟩, j, ⟨e, by omega, hjl, fun h => by rw [hnd.kind]; exact hkd, fun h _ => hkn, fun h => by rw [hnd.text]; exact hT.text _ y hy, hnm⟩, ?_, ?_⟩
  · have h5 : j = 5 := by
      rcases hj with rfl | rfl | rfl | rfl
      · have := (hT.files _ y hy).2 (.inl rfl); omega
      · have := (hT.files _ y hy).2 (.inr rfl); omega
      · obtain ⟨z, h1, h2⟩ := hr.nl.link
        have hy4 : find s.F.L 4 = some y := hy
        rw [h1] at hy4; injection hy4 with hy4; subst hy4; omega
      · rfl
    subst h5
    obtain ⟨z, kd, h1, _, h3, h4, h5⟩ := hr.nl.empty
    have hy5 : find s.F.L 5 = some y := hy
    rw [h1] at hy5; injection hy5 with hy5; subst hy5
    exact ⟨kd, h3, h4, by omega⟩
  · rw [e, kindD_at (by omega) hjl, hnd.kind]
  · unfold textN
    rw [e, dget_at (by omega) hjl]
    exact hnd.text
theorem lines_eq (hT : TreeOk s.F) (hr : Rel n s d) (path : ByteArray) : linesF path s.F kidsE = linesE path d.N kidsE := by
  unfold linesF linesE
  have : ∀ e ∈ kidsE, lineF path s.F e = lineE path d.N e := fun e he => by
    obtain ⟨k, hk, rfl⟩ := List.mem_iff_getElem.1 he
    obtain ⟨y, ok, j, ok2, h1, h2⟩ := kids_nodes hT hr k hk
    unfold lineF lineE
    rw [h1, h2]
    unfold kindF textF
    rw [ok.at_]
  rw [List.flatMap_def, List.flatMap_def, List.map_congr_left this]
/-- What both Shows say. -/
def showT (d : Dg) : ByteArray := ba (linesE ⟨#[]⟩ d.N kidsE)
theorem show_st (hT : TreeOk s.F) (hr : Rel n s d) (hg : Glob R) (h : Sat w (SgHp c s * R)) :
    Calls Tryz.prog 58 #[pp c.fb] w fun e w' => (e = .returned (.string (showT d)) ∧ Sat w' (SgHp c s * R)) ∧ Ran w w' := by
  obtain ⟨x, kd, h1, h2, h3, h4, h5⟩ := hr.nl.names
  refine (Show_calls h1 h3 h4 (by omega) (fun k hk => by obtain ⟨y, ok, _⟩ := kids_nodes hT hr k hk; exact ⟨y, ok⟩) (Glob.more (S := tabHp c.tb c.fb c.bp c.hm s.L s.n * (poolHp c s.P s.tot * (pipesHp c s.P * snksHp s.L))) hg) (h.perm (show _ = fsHp c.fb c.mb s.F * (tabHp c.tb c.fb c.bp c.hm s.L s.n * (poolHp c s.P s.tot * (pipesHp c s.P * snksHp s.L)) * R) by unfold SgHp; ac_rfl))).mono ?_
  rintro e w' ⟨⟨rfl, S⟩, hR⟩
  exact ⟨⟨by rw [lines_eq hT hr]; rfl, S.perm (by unfold SgHp; ac_rfl)⟩, hR⟩
theorem rshow_st (hT : TreeOk s.F) (hr : Rel n s d) (h : Sat w (DgHp d * R)) :
    Calls Tryz.prog 59 #[pp d.cf.fb] w fun e w' => (e = .returned (.string (showT d)) ∧ Sat w' (DgHp d * R)) ∧ Ran w w' := by
  have h1 : 1 < d.N.length := by rw [hr.nl.len]; omega
  obtain ⟨e1, e2⟩ := hr.kids h1
  have hkn := hr.nl.kn 1 h1
  rw [if_pos rfl] at hkn
  have S := (dg_open h).perm (show _ = rfHp d.cf d.N * (enA d.N[1].kp d.N[1].kc kidsE * (rtHp d.c d.H d.B.length * (pqHp d.c d.B * (Spill.rpool d.c.rp 40 3 4 d.cap d.p d.B * (all Spill.rbuf d.B * R))))) by rw [e1, e2]; ac_rfl)
  refine (RShow_calls (E := kidsE) h1 hkn (by show 4 ≤ 100; omega) (fun k hk => by obtain ⟨y, ok, j, ok2, _⟩ := kids_nodes hT hr k hk; exact ⟨j, ok2⟩) S).mono ?_
  rintro e w' ⟨⟨rfl, S2⟩, hR⟩
  rw [e1, e2] at S2
  exact ⟨⟨rfl, S2.perm (by unfold DgHp; ac_rfl)⟩, hR⟩
/-- What is told of a handle. -/
structure Told where
  k : Int
  rf : Int
  a : Int
  nd : Int
  m : Md
  er : Int
def toldT (s : Sg) (id : Int) : Told := match findA s.L id with
  | none => ⟨0, 0, 0, 0, ⟨false, false, false⟩, 18⟩
  | some y => match y.t with
    | .file j a m => ⟨1, y.refs, a, j, m, 0⟩
    | .text t a => ⟨2, y.refs, a, 0, ⟨false, false, false⟩, 0⟩
    | .sink _ _ _ l _ => ⟨3, y.refs, l.length, 0, ⟨false, false, false⟩, 0⟩
    | .reader bb _ => ⟨4, y.refs, ((findA s.P (bb : Int)).map fun p => (p.data.length : Int)).getD 0, 0, ⟨false, false, false⟩, 0⟩
    | .writer bb _ => ⟨5, y.refs, ((findA s.P (bb : Int)).map fun p => (p.data.length : Int)).getD 0, 0, ⟨false, false, false⟩, 0⟩
abbrev toldV (t : Told) : Value := inV t.k t.rf t.a t.nd t.m
theorem stat_told (hN : n ≤ 100) (hI : Inv n s) {id : Int} (hid : I64 id) (h : Sat w (SgHp c s * R)) :
    Calls Tryz.prog 24 #[pp c.tb, .int .i64 id] w fun e w' => e = .returned (.tuple #[toldV (toldT s id), .int .i64 (toldT s id).er]) ∧ Below w.heap.size w w' := by
  unfold toldT
  cases hy : findA s.L id with
  | none => exact TStat_none c.tb c.fb c.bp c.hm s.n s.L id hid hy w _ (sg_tab h)
  | some y =>
    have hth := hI.th _ y hy
    have htot := hI.tot
    unfold ThOk at hth
    dsimp only
    cases hyt : y.t with
    | file k a m => exact TStat_file c.tb c.fb c.bp c.hm s.n s.L id k y a m hid hy hyt w _ (sg_tab h)
    | text t a => exact TStat_text c.tb c.fb c.bp c.hm s.n s.L id y t a hid hy hyt w _ (sg_tab h)
    | sink sp q cap l most => exact TStat_sink c.tb c.fb c.bp c.hm s.n s.L id y sp q cap l most hid hy hyt w _ (sg_tab h)
    | reader bb eb =>
      rw [hyt] at hth
      obtain ⟨p, hp, rfl, hrd⟩ := hth
      obtain ⟨hpk, hpo, hpt⟩ := hI.pk _ p hp
      have hbb : p.bb = bb := by omega
      subst hbb
      obtain ⟨X, HX⟩ := sg_pipe h hp
      dsimp only
      rw [hp]
      exact TStat_reader c.tb c.fb c.bp c.hm s.n s.L id y p.bb p.eb c.bp p.frm p.data hid hy hyt (by omega) w _ HX
    | writer bb eb =>
      rw [hyt] at hth
      obtain ⟨p, hp, rfl, hrd⟩ := hth
      obtain ⟨hpk, hpo, hpt⟩ := hI.pk _ p hp
      have hbb : p.bb = bb := by omega
      subst hbb
      obtain ⟨X, HX⟩ := sg_pipe h hp
      dsimp only
      rw [hp]
      exact TStat_writer c.tb c.fb c.bp c.hm s.n s.L id y p.bb p.eb c.bp p.frm p.data hid hy hyt (by omega) w _ HX
/-- A document's handle that says so. -/
structure Says (t : Told) (x : DH) : Prop where
  k : x.kind = t.k
  rf : x.refs = t.rf
  a : x.at_ = t.a
  nd : x.node = t.nd
  r : x.rd = t.m.r
  p : x.pt = t.m.w
  m : x.mo = t.m.m
theorem rstat_told (hN : n ≤ 100) (hI : Inv n s) (hr : Rel n s d) (id : Int) (h : Sat w (DgHp d * R)) :
    Calls Tryz.prog 60 #[pp d.c.tb, .int .i64 id] w fun e w' => (∃ x, Says (toldT s id) x ∧ e = .returned (.tuple #[dhV x, .int .i64 (toldT s id).er]) ∧ Sat w' (DgHp d * R)) ∧ Ran w w' := by
  have hH := lenH hI hr
  have hlb := hr.lenB
  unfold toldT
  cases hy : findA s.L id with
  | none =>
    refine (RStat_none id (by omega) (hr.hl.no hy) (dg_open h)).mono ?_
    rintro e w' ⟨⟨rfl, S⟩, hR⟩
    exact ⟨⟨dh0, ⟨rfl, rfl, rfl, rfl, rfl, rfl, rfl⟩, rfl, dg_shut S⟩, hR⟩
  | some y =>
    dsimp only
    have hth := hI.th _ y hy
    unfold ThOk at hth
    cases hyt : y.t with
    | file k a m =>
      obtain ⟨i, hi, hp, hid, hrel⟩ := hr.hl.at hy
      have hrel := hrel.of hyt
      have e : d.H[i] = ⟨id, 1, y.refs, (a : Int), k, m.r, m.w, m.m, ⟨#[]⟩, 0, 0⟩ := hrel
      refine (RStat_plain id i (by omega) hi hp (by rw [e]; dsimp only; omega) (by rw [e]; exact Int.le_refl _) (dg_open h)).mono ?_
      rintro e2 w' ⟨⟨rfl, S⟩, hR⟩
      exact ⟨⟨d.H[i], ⟨by rw [e], by rw [e], by rw [e], by rw [e], by rw [e], by rw [e], by rw [e]⟩, rfl, dg_shut S⟩, hR⟩
    | text tx a =>
      obtain ⟨i, hi, hp, hid, hrel⟩ := hr.hl.at hy
      have hrel := hrel.of hyt
      have e : d.H[i] = ⟨id, 2, y.refs, (a : Int), 0, false, false, false, tx, 0, 0⟩ := hrel
      refine (RStat_plain id i (by omega) hi hp (by rw [e]; dsimp only; omega) (by rw [e]; exact Int.le_refl _) (dg_open h)).mono ?_
      rintro e2 w' ⟨⟨rfl, S⟩, hR⟩
      exact ⟨⟨d.H[i], ⟨by rw [e], by rw [e], by rw [e], by rw [e], by rw [e], by rw [e], by rw [e]⟩, rfl, dg_shut S⟩, hR⟩
    | sink sp q cap l most =>
      obtain ⟨i, hi, hp, hid, hrel⟩ := hr.hl.at hy
      have hrel := hrel.of hyt
      have e : d.H[i] = ⟨id, 3, y.refs, 0, 0, false, false, false, ⟨l.toArray⟩, (most : Int), 0⟩ := hrel
      refine (RStat_sink id i (by omega) hi hp (by rw [e]) (by rw [e]; exact Int.le_refl _) (dg_open h)).mono ?_
      rintro e2 w' ⟨⟨rfl, S⟩, hR⟩
      have hsz : (d.H[i].data.size : Int) = (l.length : Int) := by rw [e]; exact congrArg Int.ofNat List.size_toArray
      exact ⟨⟨{ d.H[i] with at_ := (d.H[i].data.size : Int) }, ⟨by rw [e], by rw [e], hsz, by rw [e], by rw [e], by rw [e], by rw [e]⟩, rfl, dg_shut S⟩, hR⟩
    | reader bb eb =>
      rw [hyt] at hth
      obtain ⟨p, hp, -, -⟩ := hth
      obtain ⟨i, k, rb, pre, hi, hpl, hid, e, hrel, hk, hpb, hk2, e3, e4⟩ := end_at hI hr hy (.inl hyt) hp
      rw [hyt] at e
      have e : d.H[i] = ⟨id, 4, y.refs, 0, 0, false, false, false, ⟨#[]⟩, 0, (k : Int) + 1⟩ := e
      have hh : (d.B[k].h : Int) = (p.data.length : Int) := by rw [e3]; rfl
      dsimp only
      rw [hp]
      refine (RStat_pipe id i k (by omega) hi hpl (by rw [e]; dsimp only; omega) (by rw [e]) hk2 (by omega) (bf_small hI hN hr _ (List.getElem_mem hk2)) ((dg_open h).perm (show _ = rtHp d.c d.H d.B.length * (pqHp d.c d.B * (all Spill.rbuf d.B * (rfHp d.cf d.N * (Spill.rpool d.c.rp 40 3 4 d.cap d.p d.B * (enA d.kp d.kc kidsE * R))))) by ac_rfl))).mono ?_
      rintro e2 w' ⟨⟨rfl, S⟩, hR⟩
      exact ⟨⟨{ d.H[i] with at_ := (d.B[k].h : Int) }, ⟨by rw [e], by rw [e], hh, by rw [e], by rw [e], by rw [e], by rw [e]⟩, rfl, dg_shut (S.perm (by ac_rfl))⟩, hR⟩
    | writer bb eb =>
      rw [hyt] at hth
      obtain ⟨p, hp, -, -⟩ := hth
      obtain ⟨i, k, rb, pre, hi, hpl, hid, e, hrel, hk, hpb, hk2, e3, e4⟩ := end_at hI hr hy (.inr hyt) hp
      rw [hyt] at e
      have e : d.H[i] = ⟨id, 5, y.refs, 0, 0, false, false, false, ⟨#[]⟩, 0, (k : Int) + 1⟩ := e
      have hh : (d.B[k].h : Int) = (p.data.length : Int) := by rw [e3]; rfl
      dsimp only
      rw [hp]
      refine (RStat_pipe id i k (by omega) hi hpl (by rw [e]; dsimp only; omega) (by rw [e]) hk2 (by omega) (bf_small hI hN hr _ (List.getElem_mem hk2)) ((dg_open h).perm (show _ = rtHp d.c d.H d.B.length * (pqHp d.c d.B * (all Spill.rbuf d.B * (rfHp d.cf d.N * (Spill.rpool d.c.rp 40 3 4 d.cap d.p d.B * (enA d.kp d.kc kidsE * R))))) by ac_rfl))).mono ?_
      rintro e2 w' ⟨⟨rfl, S⟩, hR⟩
      exact ⟨⟨{ d.H[i] with at_ := (d.B[k].h : Int) }, ⟨by rw [e], by rw [e], hh, by rw [e], by rw [e], by rw [e], by rw [e]⟩, rfl, dg_shut (S.perm (by ac_rfl))⟩, hR⟩
/-- What is seen of a handle. -/
def seenT (s : Sg) (id : Int) : ByteArray × Int := match findA s.L id with
  | none => (⟨#[]⟩, 18)
  | some y => match y.t with
    | .sink _ _ _ l _ => (⟨l.toArray⟩, 0)
    | _ => (⟨#[]⟩, 19)
theorem seen_told (hN : n ≤ 100) (hI : Inv n s) {id : Int} (hid : I64 id) (h : Sat w (SgHp c s * R)) :
    Calls Tryz.prog 20 #[pp c.tb, .int .i64 id] w fun e w' => (e = .returned (.tuple #[.string (seenT s id).1, .int .i64 (seenT s id).2]) ∧ Sat w' (SgHp c s * R)) ∧ Ran w w' := by
  unfold seenT
  cases hy : findA s.L id with
  | none =>
    refine (Seen_none c.tb c.fb c.bp c.hm s.n s.L id hid hy w _ (sg_tab h)).mono ?_
    rintro e w' ⟨rfl, rfl⟩
    exact ⟨⟨rfl, h⟩, Below.refl 0 w⟩
  | some y =>
    have hth := hI.th _ y hy
    have htot := hI.tot
    unfold ThOk at hth
    dsimp only
    cases hyt : y.t with
    | file k a m => exact (Seen_no_file c.tb c.fb c.bp c.hm s.n s.L id y k a m hid hy hyt w _ (sg_tab h)).mono fun e w' ⟨he, hB⟩ => ⟨⟨he, h.below hB⟩, below_ran hB⟩
    | text t a => exact (Seen_no_text c.tb c.fb c.bp c.hm s.n s.L id y t a hid hy hyt w _ (sg_tab h)).mono fun e w' ⟨he, hB⟩ => ⟨⟨he, h.below hB⟩, below_ran hB⟩
    | sink sp q cap l most =>
      rw [hyt] at hth
      obtain ⟨X, e1, e2, _⟩ := focusA (fun x : Hn => snkT x.t) s.L id y hy
      have e1' : snksHp s.L = bufHp q cap l * X := by unfold snksHp; rw [e1, hyt]; rfl
      have H2 := sg_tab h
      rw [e1'] at H2
      refine (Seen_sink c.tb c.fb c.bp c.hm s.n s.L id y sp q cap l most hid hy hyt (by omega) w _ (H2.perm (show _ = tabHp c.tb c.fb c.bp c.hm s.L s.n * (bufHp q cap l * (fsHp c.fb c.mb s.F * (poolHp c s.P s.tot * (pipesHp c s.P * (X * R))))) by ac_rfl))).mono ?_
      rintro e w' ⟨⟨rfl, S⟩, hR⟩
      exact ⟨⟨rfl, S.perm (by unfold SgHp; rw [e1']; ac_rfl)⟩, hR⟩
    | reader bb eb =>
      rw [hyt] at hth
      obtain ⟨p, hp, rfl, hrd⟩ := hth
      obtain ⟨hpk, hpo, hpt⟩ := hI.pk _ p hp
      have hbb : p.bb = bb := by omega
      subst hbb
      obtain ⟨X, HX⟩ := sg_pipe h hp
      exact (Seen_no_reader c.tb c.fb c.bp c.hm s.n s.L id y p.bb p.eb c.bp p.frm p.data hid hy hyt (by omega) w _ HX).mono fun e w' ⟨he, hB⟩ => ⟨⟨he, h.below hB⟩, below_ran hB⟩
    | writer bb eb =>
      rw [hyt] at hth
      obtain ⟨p, hp, rfl, hrd⟩ := hth
      obtain ⟨hpk, hpo, hpt⟩ := hI.pk _ p hp
      have hbb : p.bb = bb := by omega
      subst hbb
      obtain ⟨X, HX⟩ := sg_pipe h hp
      exact (Seen_no_writer c.tb c.fb c.bp c.hm s.n s.L id y p.bb p.eb c.bp p.frm p.data hid hy hyt (by omega) w _ HX).mono fun e w' ⟨he, hB⟩ => ⟨⟨he, h.below hB⟩, below_ran hB⟩
theorem rseen_told (hI : Inv n s) (hN : n ≤ 100) (hr : Rel n s d) (id : Int) (h : Sat w (DgHp d * R)) :
    Calls Tryz.prog 61 #[pp d.c.tb, .int .i64 id] w fun e w' => e = .returned (.tuple #[.string (seenT s id).1, .int .i64 (seenT s id).2]) ∧ w = w' := by
  have hH := lenH hI hr
  unfold seenT
  cases hy : findA s.L id with
  | none => exact RSeen_none id (by omega) (hr.hl.no hy) (dg_open h)
  | some y =>
    obtain ⟨i, hi, hp, hid, hrel⟩ := hr.hl.at hy
    have HS := RSeen_some id i (by omega) hi hp (dg_open h)
    dsimp only
    cases hyt : y.t with
    | file k a m =>
      have e : d.H[i] = ⟨id, 1, y.refs, (a : Int), k, m.r, m.w, m.m, ⟨#[]⟩, 0, 0⟩ := hrel.of hyt
      rw [e] at HS; exact HS
    | text tx a =>
      have e : d.H[i] = ⟨id, 2, y.refs, (a : Int), 0, false, false, false, tx, 0, 0⟩ := hrel.of hyt
      rw [e] at HS; exact HS
    | sink sp q cap l most =>
      have e : d.H[i] = ⟨id, 3, y.refs, 0, 0, false, false, false, ⟨l.toArray⟩, (most : Int), 0⟩ := hrel.of hyt
      rw [e] at HS; exact HS
    | reader bb eb =>
      obtain ⟨q, _, e⟩ := hrel.of hyt
      rw [e] at HS; exact HS
    | writer bb eb =>
      obtain ⟨q, _, e⟩ := hrel.of hyt
      rw [e] at HS; exact HS
end
end Go.Proofs.YtljlpkeddbfpaaaGreatDoor.Hd

namespace Go.Proofs.YtljlpkeddbfpaaaGreatDoor.Hd
open Go.RowKit Go.Maps Go.Proofs.YtljlpkeddbfpaaaGreatDoor Go.Proofs.YtljlpkeddbfpaaaGreatDoor.Hp
set_option linter.unusedVariables false
attribute [local go_sem] Oper.semAt_some

theorem rise_int : ∀ (l1 l2 : List Int), l1.Pairwise (· < ·) → l2.Pairwise (· < ·) → (∀ x, x ∈ l1 ↔ x ∈ l2) → l1 = l2
  | [], [], _, _, _ => rfl
  | [], y :: l2, _, _, h => by have := (h y).2 List.mem_cons_self; cases this
  | x :: l1, [], _, _, h => by have := (h x).1 List.mem_cons_self; cases this
  | x :: l1, y :: l2, h1, h2, h => by
    have c1 := List.pairwise_cons.1 h1
    have c2 := List.pairwise_cons.1 h2
    have e : x = y := by
      rcases List.mem_cons.1 ((h x).1 List.mem_cons_self) with e | e
      · exact e
      · rcases List.mem_cons.1 ((h y).2 List.mem_cons_self) with e2 | e2
        · exact e2.symm
        · have := c1.1 y e2; have := c2.1 x e; omega
    subst e
    rw [rise_int l1 l2 c1.2 c2.2 fun z => ⟨fun hz => ?_, fun hz => ?_⟩]
    · rcases List.mem_cons.1 ((h z).1 (List.mem_cons_of_mem _ hz)) with e | e
      · subst e; have := c1.1 z hz; omega
      · exact e
    · rcases List.mem_cons.1 ((h z).2 (List.mem_cons_of_mem _ hz)) with e | e
      · subst e; have := c2.1 z hz; omega
      · exact e
section
variable {n : Nat} {s : Sg} {d : Dg} {c : Pls} {w : World} {R : Hp}
theorem keys_ids {P : Int → Hn → DH → Prop} {H : List DH} {ks : List Int} (r : LR P s.L H) (hk : KeysOf (hblk s.L) ks) : ks = H.map DH.id := by
  refine rise_int _ _ hk.1 (List.pairwise_map.2 r.srt) fun x => (hk.2 x).trans ?_
  have e : (hblk s.L x).isSome = (findA s.L x).isSome := by unfold hblk; cases findA s.L x <;> rfl
  rw [e, List.mem_map]
  constructor
  · intro h
    obtain ⟨y, hy⟩ := Option.isSome_iff_exists.1 h
    obtain ⟨z, h1, h2, _⟩ := r.fwd x y hy
    exact ⟨z, h1, h2⟩
  · rintro ⟨z, h1, rfl⟩
    obtain ⟨y, hy, _⟩ := r.fro z h1
    rw [hy]; rfl
theorem rheld_st (hN : n ≤ 100) (hI : Inv n s) (hr : Rel n s d) (h : Sat w (DgHp d * R)) :
    Calls Tryz.prog 56 #[pp d.c.rp] w fun e w' => e = .returned (.int .i64 (sumA Pp.len s.P : Int)) ∧ ∃ m, w' = w.drewN m := by
  have := Spill.rheld d.c.rp 40 3 4 d.cap d.p d.B w _ (bf_small hI hN hr) (by rw [hr.pl.sumh]; have := hI.held; omega) ((dg_open h).perm (show _ = Spill.rpool d.c.rp 40 3 4 d.cap d.p d.B * (all Spill.rbuf d.B * (rtHp d.c d.H d.B.length * (rfHp d.cf d.N * (pqHp d.c d.B * (enA d.kp d.kc kidsE * R))))) by ac_rfl))
  rw [hr.pl.sumh] at this
  exact this
theorem rbuffers_st (hN : n ≤ 100) (hI : Inv n s) (hr : Rel n s d) (h : Sat w (DgHp d * R)) :
    Calls Tryz.prog 57 #[pp d.c.rp] w fun e w' => e = .returned (.int .i64 (s.P.length : Int)) ∧ ∃ m, w' = w.drewN m := by
  have := Spill.rbuffers d.c.rp 40 3 4 d.cap d.p d.B w _ (by rw [hr.pl.sumo]; have := hI.lenP; omega) ((dg_open h).perm (show _ = Spill.rpool d.c.rp 40 3 4 d.cap d.p d.B * (all Spill.rbuf d.B * (rtHp d.c d.H d.B.length * (rfHp d.cf d.N * (pqHp d.c d.B * (enA d.kp d.kc kidsE * R))))) by ac_rfl))
  rw [hr.pl.sumo] at this
  exact this
/-- All that same reads. -/
abbrev SmHp (c : Pls) (s : Sg) (d : Dg) (xb : Nat) (p : Option Addr) (cap : Nat) (R : Hp) : Hp := SgHp c s * (arr 3 1 p d.H.length cap ((d.H.map DH.id).map iv) * (DgHp d * (pts xb (woO (pp c.fb) (pp c.bp) (pp c.tb)) * R)))
theorem sm_sg {xb cap : Nat} {p : Option Addr} (h : Sat w (SmHp c s d xb p cap R)) : Sat w (SgHp c s * (arr 3 1 p d.H.length cap ((d.H.map DH.id).map iv) * (DgHp d * (pts xb (woO (pp c.fb) (pp c.bp) (pp c.tb)) * R)))) := h
theorem sm_dg {xb cap : Nat} {p : Option Addr} (h : Sat w (SmHp c s d xb p cap R)) : Sat w (DgHp d * (SgHp c s * (arr 3 1 p d.H.length cap ((d.H.map DH.id).map iv) * (pts xb (woO (pp c.fb) (pp c.bp) (pp c.tb)) * R)))) := h.perm (by unfold SmHp; ac_rfl)
theorem dg_sm {xb cap : Nat} {p : Option Addr} (h : Sat w (DgHp d * (SgHp c s * (arr 3 1 p d.H.length cap ((d.H.map DH.id).map iv) * (pts xb (woO (pp c.fb) (pp c.bp) (pp c.tb)) * R))))) : Sat w (SmHp c s d xb p cap R) := h.perm (by unfold SmHp; ac_rfl)
theorem sm_cells {xb cap : Nat} {p : Option Addr} (h : Sat w (SmHp c s d xb p cap R)) : w.cell? ⟨xb, 0, none⟩ = some (pp c.fb) ∧ w.cell? ⟨xb, 1, none⟩ = some (pp c.bp) ∧ w.cell? ⟨xb, 2, none⟩ = some (pp c.tb) ∧ w.cell? ⟨d.c.tb, 0, none⟩ = some (pp d.c.rf) ∧ w.cell? ⟨d.c.tb, 1, none⟩ = some (pp d.c.rp) ∧ w.cell? ⟨d.c.tb, 2, none⟩ = some (.slice d.c.lp d.H.length d.c.lc) := by
  obtain ⟨a0, a1, a2⟩ := wo_cells (h.perm (show _ = pts xb (woO (pp c.fb) (pp c.bp) (pp c.tb)) * (SgHp c s * (arr 3 1 p d.H.length cap ((d.H.map DH.id).map iv) * (DgHp d * R))) by unfold SmHp; ac_rfl))
  obtain ⟨b0, b1, b2, _⟩ := rt_cells (dg_open (sm_dg h))
  exact ⟨a0, a1, a2, b0, b1, b2⟩
set_option maxRecDepth 100000 in
set_option maxHeartbeats 16000000 in
theorem same_calls (hN : n ≤ 100) (hI : Inv n s) (hr : Rel n s d) (hg : Glob R) (h : Sat w (SgHp c s * (DgHp d * R))) :
    Calls Tryz.prog 33 #[worldV (pp c.fb) (pp c.bp) (pp c.tb), pp d.c.tb] w fun e w' => (e = .returned (.bool true) ∧ Sat w' (SgHp c s * (DgHp d * R))) ∧ Ran w w' := by
  obtain ⟨xb, hxb⟩ : ∃ xb, xb = w.heap.size := ⟨_, rfl⟩
  have S1 := h.alloc (woO (pp c.fb) (pp c.bp) (pp c.tb))
  have R1 := Ran.new (Below.refl 0 w) (woO (pp c.fb) (pp c.bp) (pp c.tb))
  obtain ⟨w1, hw1⟩ : ∃ w1, w1 = w.alloc (woO (pp c.fb) (pp c.bp) (pp c.tb)) := ⟨_, rfl⟩
  rw [← hxb, ← hw1] at S1
  rw [← hw1] at R1
  have HA := Lib.hid (all_st hN hI (S1.perm (show _ = SgHp c s * (DgHp d * (pts xb (woO (pp c.fb) (pp c.bp) (pp c.tb)) * R)) by ac_rfl)))
  obtain ⟨a0, a1, a2⟩ := wo_cells S1
  have hHl := lenH hI hr
  have hHI : (d.H.length : Int) ≤ 200 := by omega
  have HK := Lib.hid (fun (ks : List Int) (hk : KeysOf (hblk s.L) ks) => keys_ids hr.hl hk)
  have HF := Lib.hid (And.intro hN (And.intro hI (And.intro hr hg)))
  have R1 := Lib.hid R1
  have Hrf : Hid (d.c.rf = d.cf.fb) := Lib.hid hr.rf
  clear h S1 hI hr hg
  go_enter Tryz.func33, Tryz.ntmps33
  go_upto_region 1 with fail
  rw [← hxb, ← hw1]
  clear hxb hw1
  go_wp2_with fail
  refine HA.out.mono ?_
  rintro e w2 ⟨⟨p, cap, ks, rfl, hk, S2⟩, hB⟩
  obtain rfl := HK.out ks hk
  have S2 : Sat w2 (SmHp c s d xb p cap R) := by
    rw [List.length_map] at S2
    exact S2.perm (by unfold SmHp; ac_rfl)
  rw [List.length_map]
  have R2 := Lib.hid (Below.trans R1.out (below_ran hB))
  clear HA HK hk hB a0 a1 a2 R1
  have SW := Lib.hid S2.drew
  have RW := Lib.hid (Ran.drewN R2.out 1)
  obtain ⟨hv, hhv⟩ : ∃ hv : Int, hv = (sumA Pp.len s.P : Int) := ⟨_, rfl⟩
  obtain ⟨bv, hbv⟩ : ∃ bv : Int, bv = (s.P.length : Int) := ⟨_, rfl⟩
  obtain ⟨tv, htv⟩ : ∃ tv, tv = showT d := ⟨_, rfl⟩
  have H1 := Lib.hid (fun (W : World) (hW : Sat W (SmHp c s d xb p cap R)) => (by rw [hhv]; exact held_st (sm_sg hW) : Calls Tryz.prog 28 #[pp c.bp] W fun e w' => e = .returned (.int .i64 hv) ∧ W = w'))
  have H2 := Lib.hid (fun (W : World) (hW : Sat W (SmHp c s d xb p cap R)) => (by rw [hhv]; exact rheld_st HF.out.1 HF.out.2.1 HF.out.2.2.1 (sm_dg hW) : Calls Tryz.prog 56 #[pp d.c.rp] W fun e w' => e = .returned (.int .i64 hv) ∧ ∃ m, w' = W.drewN m))
  have H3 := Lib.hid (fun (W : World) (hW : Sat W (SmHp c s d xb p cap R)) => (by rw [hbv]; exact buffers_st (sm_sg hW) : Calls Tryz.prog 26 #[pp c.bp] W fun e w' => e = .returned (.int .i64 bv) ∧ W = w'))
  have H4 := Lib.hid (fun (W : World) (hW : Sat W (SmHp c s d xb p cap R)) => (by rw [hbv]; exact rbuffers_st HF.out.1 HF.out.2.1 HF.out.2.2.1 (sm_dg hW) : Calls Tryz.prog 57 #[pp d.c.rp] W fun e w' => e = .returned (.int .i64 bv) ∧ ∃ m, w' = W.drewN m))
  have H5 := Lib.hid (fun (W : World) (hW : Sat W (SmHp c s d xb p cap R)) => (by rw [htv]; exact show_st HF.out.2.1.tree HF.out.2.2.1 (Glob.more (Glob.more (Glob.more HF.out.2.2.2))) (sm_sg hW) : Calls Tryz.prog 58 #[pp c.fb] W fun e w' => (e = .returned (.string tv) ∧ Sat w' (SmHp c s d xb p cap R)) ∧ Ran W w'))
  have H6 := Lib.hid (fun (W : World) (hW : Sat W (SmHp c s d xb p cap R)) => (by
    rw [htv, Hrf.out]
    exact (rshow_st HF.out.2.1.tree HF.out.2.2.1 (sm_dg hW)).mono fun e w' hh => ⟨⟨hh.1.1, dg_sm hh.1.2⟩, hh.2⟩ : Calls Tryz.prog 59 #[pp d.c.rf] W fun e w' => (e = .returned (.string tv) ∧ Sat w' (SmHp c s d xb p cap R)) ∧ Ran W w'))
  clear hhv hbv htv
  have htt : (tv.toList == tv.toList) = true := by simp
  have S2 := Lib.hid S2
  go_upto_region 2 with fail
  refine region_plan (S := (fun w' => w'.cell? ⟨xb, 0, none⟩ = some (pp c.fb) ∧ w'.cell? ⟨xb, 1, none⟩ = some (pp c.bp) ∧ w'.cell? ⟨xb, 2, none⟩ = some (pp c.tb) ∧ w'.cell? ⟨d.c.tb, 0, none⟩ = some (pp d.c.rf) ∧ w'.cell? ⟨d.c.tb, 1, none⟩ = some (pp d.c.rp) ∧ w'.cell? ⟨d.c.tb, 2, none⟩ = some (.slice d.c.lp d.H.length d.c.lc))) [(0, true), (1, true), (2, true), (3, true), (4, true), (5, true), (6, true), (7, true), (8, true), (9, true), (10, true), (12, true), (13, true), (14, true), (15, true), (11, false), (16, false), (17, true), (18, true), (19, true), (20, true), (21, true), (23, true), (24, true), (25, true), (26, true), (22, false), (27, false), (28, true), (29, true), (30, true), (31, true), (32, true), (34, true), (35, true), (36, true), (37, true), (33, false), (38, false), (39, true), (40, true)] (by kernel_rfl) (by kernel_rfl) (by kernel_rfl) ?_ ?_
  · ((try dsimp only); (first | done | (first | exact sm_cells SW.out | exact sm_cells SV.out | exact sm_cells SU.out)))
  simp only [planOps, List.map_cons, List.map_nil, List.getElem?_toArray, List.getElem?_cons_zero, List.getElem?_cons_succ]
  repeat (first
    | ((refine plan_yes (v := ?_) (by rfl) ?_ ?_); rotate_left; (focus (intro w hSw; (try dsimp only at hSw); go_simp; try (with_reducible rfl))); (try simp only [Act.put, List.setIfInBounds_toArray, List.set_cons_zero, List.set_cons_succ]))
    | ((refine plan_no (by rfl) ?_); (try simp only [Act.put, List.setIfInBounds_toArray, List.set_cons_zero, List.set_cons_succ]))
    | ((refine plan_step (fun K hK => ?_)); (first | (go_simp; (first | (go_at_call 28; refine (H1.out _ SW.out).mono ?_; rintro e w3 ⟨rfl, rfl⟩) | (go_at_call 56; refine (H2.out _ SW.out).mono ?_; rintro e w4 ⟨rfl, m4, rfl⟩; have SV := Lib.hid (S2.out.drewN (1 + m4)); have RV := Lib.hid (Ran.drewN R2.out (1 + m4))) | (go_at_call 26; refine (H3.out _ SV.out).mono ?_; rintro e w5 ⟨rfl, rfl⟩) | (go_at_call 57; refine (H4.out _ SV.out).mono ?_; rintro e w6 ⟨rfl, m6, rfl⟩; have SU := Lib.hid (S2.out.drewN (1 + m4 + m6)); have RU := Lib.hid (Ran.drewN R2.out (1 + m4 + m6))) | (go_at_call 58; refine (H5.out _ SU.out).mono ?_; rintro e w7 ⟨⟨rfl, S7⟩, R7⟩; have SW := Lib.hid S7; have R7 := Lib.hid (Below.trans RU.out R7)) | (go_at_call 59; refine (H6.out _ SW.out).mono ?_; rintro e w8 ⟨⟨rfl, S8⟩, R8⟩; have SV := Lib.hid S8; have R8 := Lib.hid (Below.trans R7.out R8))); (try go_wp2_with fail)) | go_simp); (refine hK.out _ _ ?_ (fun hHeld => ?_)); (focus ((try dsimp only); (first | done | (first | exact sm_cells SW.out | exact sm_cells SV.out | exact sm_cells SU.out)))); clear hK K; (try simp only [Act.put, List.setIfInBounds_toArray, List.set_cons_zero, List.set_cons_succ])))
  refine plan_done ?_
  have R8 := Lib.hid R8.out
  clear H1 H2 H3 H4 H5 H6 SW SU RW RU RV R7 S2 R2 S7 htt hHeld
  go_wp2_with fail
  go_loopg [6] (d.H.length) (fun (g : Nat) (v6 : Value) (wr : World) => ∃ i : Nat, v6 = .int .i64 (i : Int) ∧ i + g = d.H.length ∧ Sat wr (SmHp c s d xb p cap R) ∧ Ran w wr)
  case atStart => exact ⟨0, rfl, by omega, SV.out, R8.out⟩
  case round =>
    clear SV R8
    obtain ⟨i, rfl, hig, Si, Ri⟩ := hrel
    by_cases hlt : i < d.H.length
    · have hltI : (i : Int) < (d.H.length : Int) := by omega
      have hi0 : (0 : Int) ≤ (i : Int) := by omega
      have SA := Si.drew.perm (show _ = arr 3 1 p d.H.length cap ((d.H.map DH.id).map iv) * (SgHp c s * (DgHp d * (pts xb (woO (pp c.fb) (pp c.bp) (pp c.tb)) * R))) by unfold SmHp; ac_rfl)
      have hal := SA.arr_len
      obtain ⟨b, o, hb⟩ := SA.arr_addr (by omega)
      rw [hb] at SA
      have hic := SA.arr_cell i (by rw [List.length_map, List.length_map]; exact hlt)
      rw [List.getElem_map, List.getElem_map] at hic
      have SD := dg_open (sm_dg Si.drew)
      obtain ⟨-, -, t2, -⟩ := rt_cells SD
      obtain ⟨⟨b2, o2, hb2⟩, hlc, hlm⟩ := rt_addr SD hlt
      obtain ⟨m0, -⟩ := dh_cells SD hb2 hlt
      rw [hb2] at t2
      obtain ⟨z, hz⟩ : ∃ z, z = d.H[i].id := ⟨_, rfl⟩
      rw [← hz] at hic m0
      have hcI : (d.c.lc : Int) ≤ 9223372036854775807 := by unfold maxLen at hlm; omega
      have hcL : (d.H.length : Int) ≤ (d.c.lc : Int) := by omega
      have hcap : (cap : Int) ≤ 9223372036854775807 := by have := hal.2.2; unfold maxLen at this; omega
      have hcap4 : (d.H.length : Int) ≤ (cap : Int) := by have := hal.2.1; omega
      have Si := Lib.hid Si
      have Ri := Lib.hid Ri
      subst hb
      have hzz : (z != z) = false := by simp
      clear SA SD hz hal hlm
      go_upto_region 7 with fail
      refine region_plan (S := (fun w' => w'.cell? ⟨b, o + i, none⟩ = some (.int .i64 z) ∧ w'.cell? ⟨d.c.tb, 2, none⟩ = some (.slice (some ⟨b2, o2, none⟩) d.H.length d.c.lc) ∧ w'.cell? ⟨b2, o2 + i * 11, none⟩ = some (.int .i64 z))) [(0, true), (1, true), (2, true), (3, true), (4, true), (5, true), (6, true), (7, true), (8, true), (9, true), (10, true), (11, true), (12, true)] (by kernel_rfl) (by kernel_rfl) (by kernel_rfl) ?_ ?_
      · ((try dsimp only); (first | done | (exact ⟨hic, t2, m0⟩)))
      simp only [planOps, List.map_cons, List.map_nil, List.getElem?_toArray, List.getElem?_cons_zero, List.getElem?_cons_succ]
      repeat (first
        | ((refine plan_yes (v := ?_) (by rfl) ?_ ?_); rotate_left; (focus (intro w hSw; (try dsimp only at hSw); go_simp; try (with_reducible rfl))); (try simp only [Act.put, List.setIfInBounds_toArray, List.set_cons_zero, List.set_cons_succ]))
        | ((refine plan_no (by rfl) ?_); (try simp only [Act.put, List.setIfInBounds_toArray, List.set_cons_zero, List.set_cons_succ]))
        | ((refine plan_step (fun K hK => ?_)); (first | (fail) | (go_simp; (fail); (try go_wp2_with fail)) | go_simp); (refine hK.out _ _ ?_ (fun hHeld => ?_)); (focus ((try dsimp only); (first | done | (exact ⟨hic, t2, m0⟩)))); clear hK K; (try simp only [Act.put, List.setIfInBounds_toArray, List.set_cons_zero, List.set_cons_succ])))
      refine plan_done ?_
      clear hic t2 m0
      go_wp2_with fail
      go_roundg (gk - 1)
      case rel => exact ⟨i + 1, by simp, by omega, Si.out.drew, Ran.drewN Ri.out 1⟩
      case measure => omega
    · have hge : (d.H.length : Int) ≤ (i : Int) := by omega
      have Si := Lib.hid Si
      have Ri := Lib.hid Ri
      have hd0 : decide (i < d.H.length) = false := decide_eq_false hlt
      have hd1 : decide ((i : Int) < (d.H.length : Int)) = false := decide_eq_false (by omega)
      clear hig
      go_wp2_with fail
      go_loopg [7] (d.H.length + 2) (fun (g : Nat) (v7 : Value) (wr : World) => ∃ j : Nat, v7 = .int .i64 (j : Int) ∧ j + g = d.H.length + 2 ∧ Sat wr (SmHp c s d xb p cap R) ∧ Ran w wr)
      case atStart => exact ⟨0, rfl, by omega, Si.out, Ri.out⟩
      case round =>
        clear Si Ri
        obtain ⟨j, rfl, hjg, Sj, Rj⟩ := hrel
        by_cases hjt : j < d.H.length + 2
        · have hltI : (j : Int) ≤ (d.H.length : Int) + 1 := by omega
          have hj0 : (0 : Int) ≤ (j : Int) := by omega
          have hid : I64 (j : Int) := by unfold I64; omega
          obtain ⟨a0, a1, a2, -⟩ := sm_cells Sj
          obtain ⟨T, hT⟩ : ∃ T, T = toldT s (j : Int) := ⟨_, rfl⟩
          obtain ⟨E, hE⟩ : ∃ E, E = seenT s (j : Int) := ⟨_, rfl⟩
          have HS := stat_told HF.out.1 HF.out.2.1 hid (sm_sg Sj)
          have HR := Lib.hid (fun (W : World) (X : Hp) (hW : Sat W (DgHp d * X)) => (by rw [hT]; exact rstat_told HF.out.1 HF.out.2.1 HF.out.2.2.1 (j : Int) hW : Calls Tryz.prog 60 #[pp d.c.tb, .int .i64 (j : Int)] W fun e w' => (∃ x, Says T x ∧ e = .returned (.tuple #[dhV x, .int .i64 T.er]) ∧ Sat w' (DgHp d * X)) ∧ Ran W w'))
          have HE := Lib.hid (fun (W : World) (X : Hp) (hW : Sat W (SgHp c s * X)) => (by rw [hE]; exact seen_told HF.out.1 HF.out.2.1 hid hW : Calls Tryz.prog 20 #[pp c.tb, .int .i64 (j : Int)] W fun e w' => (e = .returned (.tuple #[.string E.1, .int .i64 E.2]) ∧ Sat w' (SgHp c s * X)) ∧ Ran W w'))
          have HG := Lib.hid (fun (W : World) (X : Hp) (hW : Sat W (DgHp d * X)) => (by rw [hE]; exact rseen_told HF.out.2.1 HF.out.1 HF.out.2.2.1 (j : Int) hW : Calls Tryz.prog 61 #[pp d.c.tb, .int .i64 (j : Int)] W fun e w' => e = .returned (.tuple #[.string E.1, .int .i64 E.2]) ∧ W = w'))
          rw [← hT] at HS
          have HS := Lib.hid HS
          clear hT hE
          obtain ⟨tk, trf, ta, tnd, ⟨mr, mw, mm⟩, ter⟩ := T
          obtain ⟨Es, Ee⟩ := E
          dsimp only at HS HR HE HG
          have Sj := Lib.hid Sj
          have Rj := Lib.hid Rj
          have htt : (Es.toList == Es.toList) = true := by simp
          go_wp2_with fail
          refine HS.out.mono ?_
          rintro e w3 ⟨rfl, hB⟩
          have S3 := (Sj.out.below hB).alloc (inO tk trf ta tnd ⟨mr, mw, mm⟩)
          have R3 := Ran.new (Below.trans Rj.out (below_ran hB)) (inO tk trf ta tnd ⟨mr, mw, mm⟩)
          have HR3 := Lib.hid (HR.out _ _ (S3.perm (show _ = DgHp d * (pts w3.heap.size (inO tk trf ta tnd ⟨mr, mw, mm⟩) * (SgHp c s * (arr 3 1 p d.H.length cap ((d.H.map DH.id).map iv) * (pts xb (woO (pp c.fb) (pp c.bp) (pp c.tb)) * R)))) by unfold SmHp; ac_rfl)))
          have S3 := Lib.hid S3
          have R3 := Lib.hid R3
          clear HS HR hB Sj Rj a0 a1 a2
          go_wp2_with fail
          refine HR3.out.mono ?_
          rintro e w4 ⟨⟨x, hsay, rfl, S4⟩, R4⟩
          obtain ⟨xi, xk, xr, xa, xn, xrd, xpt, xmo, xd, xm, xp⟩ := x
          obtain ⟨y1, y2, y3, y4, y5, y6, y7⟩ := hsay
          dsimp only at y1 y2 y3 y4 y5 y6 y7
          subst y1 y2 y3 y4 y5 y6 y7
          have S5 := S4.alloc (dhO ⟨xi, xk, xr, xa, xn, xrd, xpt, xmo, xd, xm, xp⟩)
          have R5 := Lib.hid (Ran.new (Below.trans R3.out R4) (dhO ⟨xi, xk, xr, xa, xn, xrd, xpt, xmo, xd, xm, xp⟩))
          obtain ⟨r0, r1, r2, r3, r4, r5, r6, r7, -⟩ := dhO_cells S5
          have S6 := S5.perm (show _ = pts w3.heap.size (inO xk xr xa xn ⟨xrd, xpt, xmo⟩) * (pts w4.heap.size (dhO ⟨xi, xk, xr, xa, xn, xrd, xpt, xmo, xd, xm, xp⟩) * SmHp c s d xb p cap R) by unfold SmHp; ac_rfl)
          obtain ⟨q0, q1, q2, q3, q4, q5, q6⟩ := in_cells S6
          obtain ⟨a0, a1, a2, -⟩ := sm_cells S6.right.right
          have HE6 := Lib.hid (HE.out _ _ (sm_sg S6.right.right))
          dsimp only at r0 r1 r2 r3 r4 r5 r6 r7 q4 q5 q6
          clear HR3 S3 R3 S4 R4 S5 S6 HE
          go_wp2_with fail
          refine HE6.out.mono ?_
          rintro e w6 ⟨⟨rfl, S7⟩, R7⟩
          have S7 : Sat w6 (SmHp c s d xb p cap R) := S7
          have HG7 := Lib.hid (HG.out _ _ (sm_dg S7))
          have S7 := Lib.hid S7
          have R7 := Lib.hid (Below.trans R5.out R7)
          clear HE6 HG R5 r0 r1 r2 r3 r4 r5 r6 r7 q0 q1 q2 q3 q4 q5 q6 a0 a1 a2
          go_wp2_with fail
          refine HG7.out.mono ?_
          rintro e w8 ⟨rfl, rfl⟩
          clear HG7
          go_wp2_with fail
          go_roundg (gk - 1)
          case rel => exact ⟨j + 1, by simp, by omega, S7.out, R7.out⟩
          case measure => omega
        · have hge2 : (d.H.length : Int) + 1 < (j : Int) := by omega
          have S9 := Lib.hid (And.intro Sj Rj)
          clear Sj Rj
          go_wp2_with fail
          go_ret
          exact ⟨⟨rfl, (S9.out.1.perm (show _ = arr 3 1 p d.H.length cap ((d.H.map DH.id).map iv) * (pts xb (woO (pp c.fb) (pp c.bp) (pp c.tb)) * (SgHp c s * (DgHp d * R))) by unfold SmHp; ac_rfl)).right.right⟩, S9.out.2⟩
end
end Go.Proofs.YtljlpkeddbfpaaaGreatDoor.Hd

namespace Go.Proofs.YtljlpkeddbfpaaaGreatDoor.Hd
open Go.ChangeShapes Go.WideShapes Go.ChangeAt Go.ChangeMaps Go.RowKit Go.Proofs.YtljlpkeddbfpaaaGreatDoor Go.Proofs.YtljlpkeddbfpaaaGreatDoor.Hp
set_option linter.unusedVariables false

theorem maxlen_cell (w : World) (h : w.ShapedOpen Tryz.prog) : ∃ m, w.cell? ⟨0, 0, none⟩ = some (.int .i64 m) :=
  Go.Proofs.cell_of_shapedOpen_int (zero := #[.int .i64 0]) (t := 3) h (of_decide_eq_true (by kernel_rfl)) (by kernel_rfl) rfl (by kernel_rfl) (by kernel_rfl) Tryz.underlying3
theorem glob_keep {W : World} (h : W.ShapedOpen Tryz.prog) : Glob (keep W) := by
  obtain ⟨m, hm⟩ := maxlen_cell W h
  refine ⟨m, fun w S hS => ?_⟩
  rw [← hm]
  exact World.cell?_of_block (w := W) (hS.right.kept 0 (World.block_lt_of_cell? _ _ hm))
/-- The wrap of a law's row that keeps what is laid and the world's shape. -/
theorem handed_shaped {H : Type} {enc : TypeId × Value → H} {a : Assume} {C : Checked} {os : Os} {f : FuncId} {fn : Func} {s : ChangeSpec} {conds : List PathCond} {apart fresh handsOn again : Bool} {X : World → Array Value → Prop}
    (hX : ∀ (w w' : World) (args : Array Value), w.heap = w'.heap → X w args → X w' args)
    (own : ownKnob C.prog.godebug = none) (started : os.Started) (noInit : C.prog.inits.idxOf? f = none) (hfn : C.prog.funcs[f]? = some fn)
    (witness : ∃ (w : World) (tape : Tape) (i : Input), w.os = os ∧ (w.forCall tape i).Shaped C.prog ∧ i.vars = [] ∧ Input.okWide C.prog (w.forCall tape i) .any w.heap.size f i ∧
      ((s.pre enc C.prog fn conds apart (w.forCall tape i).memory i.args ∧ X (w.forCall tape i).memory i.args) ∧ sizedMet enc C.prog fn (OpenSpec.ofChange s) apart (w.forCall tape i).memory i.args) ∧ a.holds C.prog (lone (Frame.enter C.prog f i.args .normal) [] (w.forCall tape i)))
    (contract : ∀ (W : World) (base : Nat) (args : Array Value) (ds gs : List (DataW H)) (before : List MemPlace),
      (∀ (j : Nat) t v, fn.params[j]? = some t → args[j]? = some v → Value.okWide C.prog W .any base t v) →
      DataW.Whole enc C.prog fn.params.toList s.vars apart W args.toList ds gs before →
      conds.all (PathCond.test C.prog ⟨fn.params.toList, ds, s.plain.varTypes C.prog, gs⟩) = true →
      (DataW.weightsEach C.prog (fn.params.toList ++ s.plain.varTypes C.prog) (ds ++ gs)).all (· ≤ reachBytes) = true → X W args →
      W.ShapedOpen C.prog →
      Calls C.prog f args W fun e W' => ∃ v, e = .returned v ∧ s.post enc C.prog fn apart fresh handsOn again W args v W') :
    ReturnsInHanded a C os f .any (fun w args => (s.pre enc C.prog fn conds apart w args ∧ X w args) ∧ sizedMet enc C.prog fn (OpenSpec.ofChange s) apart w args) (s.post enc C.prog fn apart fresh handsOn again) := by
  refine returnsInHanded_of_calls own started noInit witness ?_
  intro w tape i _ hsh _ hok hpre hholds
  obtain ⟨_, _, _, fn', hfn', _, _, _, _, hval⟩ := hok
  have e : fn' = fn := Option.some.inj (hfn'.symm.trans hfn)
  subst e
  obtain ⟨⟨⟨ds, gs, before, hw, hc⟩, hx⟩, hz⟩ := hpre
  have hw' := DataW.Whole.of_heap (w' := w.forCall tape i) (by rfl) hw
  refine (contract (w.forCall tape i) w.heap.size i.args ds gs before hval hw' hc (hz.weights hw) (hX _ _ _ (by rfl) hx) hsh).mono fun e W' ⟨v, he, hp⟩ => ?_
  subst he
  exact ChangeSpec.post_blind hp
end Go.Proofs.YtljlpkeddbfpaaaGreatDoor.Hd

