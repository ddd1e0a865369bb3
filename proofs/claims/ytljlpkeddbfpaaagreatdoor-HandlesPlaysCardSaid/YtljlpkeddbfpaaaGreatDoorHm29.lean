/- HandlesPlays, part 29 of 34: the texts HdQg HdQh HdQi, joined by a program. -/
import Derived.Test.YtljlpkeddbfpaaaGreatDoorHm28
namespace Go.Proofs.YtljlpkeddbfpaaaGreatDoor.Hd
open Go.RowKit Go.Maps Go.Proofs.YtljlpkeddbfpaaaGreatDoor Go.Proofs.YtljlpkeddbfpaaaGreatDoor.Hp
set_option linter.unusedVariables false

section
variable {n : Nat} {s s' : Sg} {d : Dg} {o : Opr} {r er : Int} {t : ByteArray} {w : World} {R : Hp}
theorem pl_del (hI : Inv n s) (hr : PR s d.B) {id : Int} {y : Hn} (hy : findA s.L id = some y) (hno : ∀ bb eb, ¬ (y.t = .reader bb eb ∨ y.t = .writer bb eb)) (F2 : Fs) : PR { s with F := F2, L := delA s.L id } d.B := by
  refine hr.frame rfl (Nat.le_refl _) fun k z bb eb hz hb => ⟨z, ?_, rfl⟩
  show findA (delA s.L id) k = _
  rw [findA_del s.L id k hI.nd, if_neg (fun e => by rw [e, hy] at hz; injection hz with hz; subst hz; exact hno bb eb hb)]
  exact hz
theorem pl_upd (hr : PR s d.B) {id : Int} {y y' : Hn} (hy : findA s.L id = some y) (ht : y'.t = y.t ∨ ∀ bb eb, ¬ (y.t = .reader bb eb ∨ y.t = .writer bb eb)) (F2 : Fs) : PR { s with F := F2, L := updA s.L id y' } d.B := by
  refine hr.frame rfl (Nat.le_refl _) fun k z bb eb hz hb => ?_
  by_cases e : k = id
  · subst e
    rw [hy] at hz
    injection hz with hz
    subst hz
    rcases ht with h1 | h1
    · exact ⟨y', by show findA (updA s.L _ _) _ = _; rw [findA_upd s.L _ _ _ (by rw [hy]; rfl), if_pos rfl], h1⟩
    · exact absurd hb (h1 bb eb)
  · exact ⟨z, by show findA (updA s.L _ _) _ = _; rw [findA_upd s.L _ _ _ (by rw [hy]; rfl), if_neg e]; exact hz, rfl⟩
def isRd : Th → Bool
  | .reader .. => true
  | _ => false
/-- An end of a pipe: what the document's row and pipes say of it. -/
theorem end_at (hI : Inv n s) (hr : Rel n s d) {id : Int} {y : Hn} {bb eb : Nat} {p : Pp} (hy : findA s.L id = some y) (ht : y.t = .reader bb eb ∨ y.t = .writer bb eb) (hp : findA s.P (bb : Int) = some p) :
    ∃ (i k rb : Nat) (pre : List UInt8), ∃ hi : i < d.H.length, placeN d.H id 0 = (i : Int) ∧ d.H[i].id = id ∧ d.H[i] = ⟨id, (if isRd y.t = true then 4 else 5), y.refs, 0, 0, false, false, false, ⟨#[]⟩, 0, (k : Int) + 1⟩ ∧ HR d.B id y d.H[i] ∧ isO d.B bb k ∧ p.bb = bb ∧ ∃ hk : k < d.B.length, d.B[k] = ⟨bb, rb, false, pre, p.data⟩ ∧ pre.length = p.frm := by
  obtain ⟨i, hi, hpl, hid, hrel⟩ := hr.hl.at hy
  have hpb : p.bb = bb := by have := (hI.pk _ p hp).1; omega
  obtain ⟨b, rf, xb, th⟩ := y
  rcases ht with e | e
  · cases e
    have hrel2 := hrel
    obtain ⟨k, hk, e2⟩ := hrel2
    obtain ⟨rb, pre, hk2, e3, e4⟩ := hr.pl.at hk hp hpb
    exact ⟨i, k, rb, pre, hi, hpl, hid, by rw [e2]; rfl, hrel, hk, hpb, hk2, e3, e4⟩
  · cases e
    have hrel2 := hrel
    obtain ⟨k, hk, e2⟩ := hrel2
    obtain ⟨rb, pre, hk2, e3, e4⟩ := hr.pl.at hk hp hpb
    exact ⟨i, k, rb, pre, hi, hpl, hid, by rw [e2]; rfl, hrel, hk, hpb, hk2, e3, e4⟩
/-- The last ref of an end whose other end is open. -/
theorem unref_half (hN : n ≤ 100) (hI : Inv n s) (hr : Rel n s d) {y : Hn} {bb eb : Nat} {p p' : Pp} (hy : findA s.L o.id = some y) (h1 : y.refs = 1) (ht : y.t = .reader bb eb ∨ y.t = .writer bb eb) (hp : findA s.P (bb : Int) = some p)
    (hb : p'.bb = p.bb) (hd : p'.data = p.data) (hf : p'.frm = p.frm) (hwr : p'.wr = true → p.wr = true ∧ ∀ b2 eb, y.t ≠ .writer b2 eb) (hrd : p'.rd = true → p.rd = true ∧ ∀ b2 eb, y.t ≠ .reader b2 eb)
    (hoth : ∃ j z eb2, findA s.L j = some z ∧ j ≠ o.id ∧ (z.t = .reader bb eb2 ∨ z.t = .writer bb eb2)) (h : Sat w (DgHp d * R)) :
    Calls Tryz.prog 53 #[pp d.c.tb, .int .i64 o.id] w fun e w' => e = .returned (.int .i64 0) ∧ AfterD (n + 1) { s with L := delA s.L o.id, P := updA s.P (bb : Int) p' } d w R w' := by
  have hH := lenH hI hr
  have hlb := hr.lenB
  obtain ⟨i, k, rb, pre, hi, hpl, hid, e, hrel, hk, hpb, hk2, e3, e4⟩ := end_at hI hr hy ht hp
  obtain ⟨j, z, eb2, z1, z2, z3⟩ := hoth
  refine (RUnref_two o.id i (by omega) hi hpl (by rw [e]; exact h1) k (by omega) (by rw [e]; dsimp only; split <;> omega) (by rw [e]) (oth_true hr.hl hr.pl hi hid hk z1 z2 ⟨eb2, z3⟩) (dg_open h)).mono ?_
  rintro e w' ⟨⟨rfl, lp, lc, S⟩, hR⟩
  refine ⟨rfl, ⟨{ d.c with lp := lp, lc := lc }, d.cf, d.H.eraseIdx i, d.N, d.B, d.cap, d.p, d.kp, d.kc⟩, ⟨hr.hl.del hI.nd hi hid, ?_, hr.nl, hr.rf, Nat.le_succ_of_le hr.lenB, hr.kids⟩, rfl, dg_shut S, hR⟩
  refine hr.pl.half (fun k p hp => (hI.pk k p hp).1) hI.nd hp hy hb hd hf (fun b2 eb2 e5 => ?_) hwr hrd rfl rfl rfl
  rcases ht with e6 | e6 <;> rcases e5 with e5 | e5 <;> rw [e6] at e5 <;> cases e5 <;> rfl
/-- The last ref of a pipe's last end. -/
theorem unref_close (hN : n ≤ 100) (hI : Inv n s) (hr : Rel n s d) {y : Hn} {bb eb : Nat} {p : Pp} (hy : findA s.L o.id = some y) (h1 : y.refs = 1) (ht : y.t = .reader bb eb ∨ y.t = .writer bb eb) (hp : findA s.P (bb : Int) = some p)
    (hno : ∀ j z eb2, findA s.L j = some z → j ≠ o.id → ¬ (z.t = .reader bb eb2 ∨ z.t = .writer bb eb2)) (h : Sat w (DgHp d * R)) :
    Calls Tryz.prog 53 #[pp d.c.tb, .int .i64 o.id] w fun e w' => e = .returned (.int .i64 0) ∧ AfterD (n + 1) { s with L := delA s.L o.id, P := delA s.P (bb : Int) } d w R w' := by
  have hH := lenH hI hr
  have hlb := hr.lenB
  obtain ⟨i, k, rb, pre, hi, hpl, hid, e, hrel, hk, hpb, hk2, e3, e4⟩ := end_at hI hr hy ht hp
  refine (RUnref_one o.id i (by omega) hi hpl (by rw [e]; exact h1) k bb rb d.cap d.p pre p.data hk2 (by omega) e3 (by rw [e]; dsimp only; split <;> omega) (by rw [e]) (oth_false hr.hl hi hid hk hno) (dg_pipes h)).mono ?_
  rintro e w' ⟨⟨rfl, lp, lc, S⟩, hR⟩
  have e9 : d.B.length = (d.B.set k ⟨bb, rb, true, pre, p.data⟩).length := by rw [List.length_set]
  refine ⟨rfl, ⟨{ d.c with lp := lp, lc := lc }, d.cf, d.H.eraseIdx i, d.N, d.B.set k ⟨bb, rb, true, pre, p.data⟩, d.cap, d.p, d.kp, d.kc⟩, ⟨?_, ?_, hr.nl, hr.rf, by rw [List.length_set]; exact Nat.le_succ_of_le hr.lenB, hr.kids⟩, rfl, dg_shutP (by rw [e9] at S; exact S), hR⟩
  · refine (hr.hl.del hI.nd hi hid).imp fun j z hh hz _ hp2 => hp2.move fun b2 q eb2 hb2 hq => ?_
    rw [findA_del s.L o.id j hI.nd] at hz
    split at hz
    · cases hz
    · rename_i hj
      have hqk : k ≠ q := fun e5 => by
        subst e5
        obtain ⟨q1, q2, q3⟩ := hq
        obtain ⟨k1, k2, k3⟩ := hk
        have : b2 = bb := by rw [← q2, k2]
        subst this
        exact hno j z eb2 hz hj hb2
      obtain ⟨q1, q2, q3⟩ := hq
      exact ⟨by rw [List.length_set]; exact q1, by rw [List.getElem_set_ne hqk]; exact q2, by rw [List.getElem_set_ne hqk]; exact q3⟩
  · refine hr.pl.close (fun k p hp => (hI.pk k p hp).1) hI.nd hI.pnd hk2 e3 hp hy (fun b2 eb2 e5 => ?_) rfl rfl rfl
    rcases ht with e6 | e6 <;> rcases e5 with e5 | e5 <;> rw [e6] at e5 <;> cases e5 <;> rfl
theorem rop_Unref (hN : n ≤ 100) (hI : Inv n s) (hr : Rel n s d) (ha : askI o = 5) (hs : Step s o r t er s') (h : Sat w (DgHp d * R)) :
    Calls Tryz.prog 53 #[pp d.c.tb, .int .i64 o.id] w fun e w' => e = .returned (.int .i64 er) ∧ r = 0 ∧ t = ⟨#[]⟩ ∧ AfterD (n + 1) s' d w R w' := by
  have hT := hI.tree
  have hH := lenH hI hr
  have hl := hI.lenL
  cases hs with
  | unref_no _ hy =>
    refine (RUnref_none o.id (by omega) (hr.hl.no hy) (dg_open h)).mono ?_
    rintro e w' ⟨rfl, rfl⟩
    exact ⟨rfl, rfl, rfl, after_id hr h (Below.refl 0 w)⟩
  | unref_more y _ hy h2 =>
    obtain ⟨i, hi, hp, hid, hrel⟩ := hr.hl.at hy
    have hb := hI.refs _ y hy
    have hh := hrel.head.2
    refine (RUnref_more o.id i (by omega) hi hp (by omega) (dg_open h)).mono ?_
    rintro e w' ⟨⟨rfl, S⟩, hR⟩
    refine ⟨rfl, rfl, rfl, ⟨d.c, d.cf, d.H.set i { d.H[i] with refs := d.H[i].refs - 1 }, d.N, d.B, d.cap, d.p, d.kp, d.kc⟩, ⟨hr.hl.upd (h' := { d.H[i] with refs := d.H[i].refs - 1 }) hy hi hid hid ?_, pl_upd (y' := { y with refs := y.refs - 1 }) hr.pl hy (.inl rfl) _, hr.nl, hr.rf, Nat.le_succ_of_le hr.lenB, hr.kids⟩, rfl, dg_shut S, hR⟩
    rw [hh]
    exact hrel.setRefs _
  | unref_file y k a m _ hy h1 ht =>
    obtain ⟨i, hi, hp, hid, hrel⟩ := hr.hl.at hy
    have hrel := hrel.of ht
    have e : d.H[i] = ⟨o.id, 1, y.refs, (a : Int), k, m.r, m.w, m.m, ⟨#[]⟩, 0, 0⟩ := hrel
    have hth := hI.th _ y hy
    unfold ThOk at hth
    rw [ht] at hth
    obtain ⟨x, hx⟩ := Option.isSome_iff_exists.1 ((hT.only k).2 (by omega))
    have hk2 := (hT.files k x hx).2 hth.1
    have hkid := hT.kids k x hx hk2
    obtain ⟨j, hj, hj1, hj6, hjl, hnd, hts, hkn⟩ := node_at hT hr hx
    have hho := holds_small hI hx
    have hho1 : 1 ≤ x.holds := by
      have e1 := hI.holds k x hx
      have e2 := sumA_get (cF k) s.L _ y hy
      have e3 : cF k y = 1 := by unfold cF; rw [ht]; exact if_pos rfl
      omega
    refine (RUnref_file o.id i (by omega) hi hp (by rw [e]; exact h1) j hr.rf (by rw [e]) (by rw [e]) (by rw [e]; exact hj) hj1 hjl (by rw [hnd.kind]; omega) (by rw [hnd.names]; exact hkid.2) (by rw [hnd.holds]; omega) (dg_open h)).mono ?_
    rintro e w' ⟨⟨rfl, lp, lc, S⟩, hR⟩
    refine ⟨rfl, rfl, rfl, ⟨{ d.c with lp := lp, lc := lc }, d.cf, d.H.eraseIdx i, d.N.set j { d.N[j] with holds := d.N[j].holds - 1 }, d.B, d.cap, d.p, d.kp, d.kc⟩, ⟨hr.hl.del hI.nd hi hid, pl_del hI hr.pl hy (by rw [ht]; rintro _ _ (e | e) <;> cases e) _, ?_, hr.rf, Nat.le_succ_of_le hr.lenB, fun h1 => ?_⟩, rfl, dg_shut S, hR⟩
    · rw [hj] at hx
      refine hr.nl.holds hj1 hjl hj6 hx (x.holds - 1) (d.N[j].holds - 1) (by rw [hnd.holds]) _ ?_
      show dropP s.F k = _
      unfold dropP
      rw [hj, hx]
      exact if_neg (by omega)
    · exact kids_set hr hjl { d.N[j] with holds := d.N[j].holds - 1 } ⟨rfl, rfl⟩ h1
  | unref_text y tx a _ hy h1 ht =>
    obtain ⟨i, hi, hp, hid, hrel⟩ := hr.hl.at hy
    have hrel := hrel.of ht
    have e : d.H[i] = ⟨o.id, 2, y.refs, (a : Int), 0, false, false, false, tx, 0, 0⟩ := hrel
    refine (RUnref_plain o.id i (by omega) hi hp (by rw [e]; exact h1) (by rw [e]; exact .inl rfl) (by rw [e]) (dg_open h)).mono ?_
    rintro e w' ⟨⟨rfl, lp, lc, S⟩, hR⟩
    exact ⟨rfl, rfl, rfl, ⟨{ d.c with lp := lp, lc := lc }, d.cf, d.H.eraseIdx i, d.N, d.B, d.cap, d.p, d.kp, d.kc⟩, ⟨hr.hl.del hI.nd hi hid, pl_del hI hr.pl hy (by rw [ht]; rintro _ _ (e | e) <;> cases e) _, hr.nl, hr.rf, Nat.le_succ_of_le hr.lenB, hr.kids⟩, rfl, dg_shut S, hR⟩
  | unref_sink y sp q cap l most _ hy h1 ht =>
    obtain ⟨i, hi, hp, hid, hrel⟩ := hr.hl.at hy
    have hrel := hrel.of ht
    have e : d.H[i] = ⟨o.id, 3, y.refs, 0, 0, false, false, false, ⟨l.toArray⟩, (most : Int), 0⟩ := hrel
    refine (RUnref_plain o.id i (by omega) hi hp (by rw [e]; exact h1) (by rw [e]; exact .inr rfl) (by rw [e]) (dg_open h)).mono ?_
    rintro e w' ⟨⟨rfl, lp, lc, S⟩, hR⟩
    exact ⟨rfl, rfl, rfl, ⟨{ d.c with lp := lp, lc := lc }, d.cf, d.H.eraseIdx i, d.N, d.B, d.cap, d.p, d.kp, d.kc⟩, ⟨hr.hl.del hI.nd hi hid, pl_del hI hr.pl hy (by rw [ht]; rintro _ _ (e | e) <;> cases e) _, hr.nl, hr.rf, Nat.le_succ_of_le hr.lenB, hr.kids⟩, rfl, dg_shut S, hR⟩
  | unref_reader y bb eb p _ hy h1 ht hp =>
    have hpb : p.bb = bb := by have := (hI.pk _ p hp).1; omega
    unfold closeR
    by_cases hw : p.wr = true
    · rw [if_pos hw]
      refine (unref_half (p' := { p with rd := false }) hN hI hr hy h1 (.inl ht) hp rfl rfl rfl (fun _ => ⟨hw, fun b2 e2 e3 => by rw [ht] at e3; cases e3⟩) (fun e => by cases e) ?_ h).mono fun e w' hh => ⟨hh.1, rfl, rfl, hh.2⟩
      obtain ⟨j, z, eb2, z1, z2⟩ := hr.pl.wrs _ p hp hw
      exact ⟨j, z, eb2, z1, fun e => (by rw [e, hy] at z1; injection z1 with z1; rw [← z1, ht] at z2; cases z2), .inr (by rw [z2, hpb])⟩
    · rw [if_neg hw]
      refine (unref_close hN hI hr hy h1 (.inl ht) hp ?_ h).mono fun e w' hh => ⟨hh.1, rfl, rfl, hh.2⟩
      rintro j z eb2 hz hj (e | e)
      · exact hj (hI.oneR j o.id z y bb eb2 eb hz hy e ht)
      · have := hI.th j z hz
        unfold ThOk at this
        rw [e] at this
        obtain ⟨p2, e2, _, e3⟩ := this
        rw [hp] at e2
        injection e2 with e2
        rw [← e2] at e3
        exact hw e3
  | unref_writer y bb eb p _ hy h1 ht hp =>
    have hpb : p.bb = bb := by have := (hI.pk _ p hp).1; omega
    unfold closeW
    by_cases hw : p.rd = true
    · rw [if_pos hw]
      refine (unref_half (p' := { p with wr := false }) hN hI hr hy h1 (.inr ht) hp rfl rfl rfl (fun e => by cases e) (fun _ => ⟨hw, fun b2 e2 e3 => by rw [ht] at e3; cases e3⟩) ?_ h).mono fun e w' hh => ⟨hh.1, rfl, rfl, hh.2⟩
      obtain ⟨j, z, eb2, z1, z2⟩ := hr.pl.rds _ p hp hw
      exact ⟨j, z, eb2, z1, fun e => (by rw [e, hy] at z1; injection z1 with z1; rw [← z1, ht] at z2; cases z2), .inl (by rw [z2, hpb])⟩
    · rw [if_neg hw]
      refine (unref_close hN hI hr hy h1 (.inr ht) hp ?_ h).mono fun e w' hh => ⟨hh.1, rfl, rfl, hh.2⟩
      rintro j z eb2 hz hj (e | e)
      · have := hI.th j z hz
        unfold ThOk at this
        rw [e] at this
        obtain ⟨p2, e2, _, e3⟩ := this
        rw [hp] at e2
        injection e2 with e2
        rw [← e2] at e3
        exact hw e3
      · exact hj (hI.oneW j o.id z y bb eb2 eb hz hy e ht)
  | _ => exfalso; omega
end
end Go.Proofs.YtljlpkeddbfpaaaGreatDoor.Hd

namespace Go.Proofs.YtljlpkeddbfpaaaGreatDoor.Hd
open Go.RowKit Go.Maps Go.Proofs.YtljlpkeddbfpaaaGreatDoor Go.Proofs.YtljlpkeddbfpaaaGreatDoor.Hp
set_option linter.unusedVariables false

section
variable {n : Nat} {s s' : Sg} {d : Dg} {o : Opr} {r er : Int} {t : ByteArray} {w : World} {R : Hp}
theorem read_no_kind {B : BL} {k : Int} {y : Hn} {h : DH} (r : HR B k y h) (hm : readable y.t = false) : h.kind = 3 ∨ h.kind = 5 ∨ (h.kind = 1 ∧ h.rd = false) := by
  obtain ⟨b, rf, xb, t⟩ := y
  cases t with
  | file j a m => rw [show h = _ from r]; exact .inr (.inr ⟨rfl, hm⟩)
  | text s a => cases hm
  | sink a b c l most => rw [show h = _ from r]; exact .inl rfl
  | reader bb eb => cases hm
  | writer bb eb => obtain ⟨i, h1, h2⟩ := r; rw [h2]; exact .inr (.inl rfl)
theorem read_kind {B : BL} {k : Int} {y : Hn} {h : DH} (r : HR B k y h) (hm : readable y.t = true) : h.kind = 2 ∨ h.kind = 4 ∨ (h.kind = 1 ∧ h.rd = true) := by
  obtain ⟨b, rf, xb, t⟩ := y
  cases t with
  | file j a m => rw [show h = _ from r]; exact .inr (.inr ⟨rfl, hm⟩)
  | text s a => rw [show h = _ from r]; exact .inl rfl
  | sink a b c l most => cases hm
  | reader bb eb => obtain ⟨i, h1, h2⟩ := r; rw [h2]; exact .inr (.inl rfl)
  | writer bb eb => cases hm
theorem write_no_kind {B : BL} {k : Int} {y : Hn} {h : DH} (r : HR B k y h) (hm : writable y.t = false) : h.kind = 2 ∨ h.kind = 4 ∨ (h.kind = 1 ∧ h.pt = false) := by
  obtain ⟨b, rf, xb, t⟩ := y
  cases t with
  | file j a m => rw [show h = _ from r]; exact .inr (.inr ⟨rfl, hm⟩)
  | text s a => rw [show h = _ from r]; exact .inl rfl
  | sink a b c l most => cases hm
  | reader bb eb => obtain ⟨i, h1, h2⟩ := r; rw [h2]; exact .inr (.inl rfl)
  | writer bb eb => cases hm
theorem isO_set {B : BL} {k bb rb : Nat} {pre data pre' data' : List UInt8} (hk : k < B.length) (hB : B[k] = ⟨bb, rb, false, pre, data⟩) {b2 i : Nat} (h : isO B b2 i) : isO (B.set k ⟨bb, rb, false, pre', data'⟩) b2 i := by
  obtain ⟨h1, h2, h3⟩ := h
  have e := set_ba hk ⟨bb, rb, false, pre', data'⟩ (by rw [hB]) (by rw [hB]) i (by rw [List.length_set]; exact h1) h1
  exact ⟨by rw [List.length_set]; exact h1, by rw [e.1]; exact h2, by rw [e.2]; exact h3⟩
/-- A pipe's bytes change: all that the two say of each other stays. -/
theorem rel_setB (hI : Inv n s) (hr : Rel n s d) {bb k rb : Nat} {pre pre' : List UInt8} {p p' : Pp} (hk : k < d.B.length) (hB : d.B[k] = ⟨bb, rb, false, pre, p.data⟩) (hp : findA s.P (bb : Int) = some p) (hb : p'.bb = bb) (hrd : p'.rd = p.rd) (hwr : p'.wr = p.wr) (hpre : pre'.length = p'.frm) (tot : Nat) (hT : s.tot ≤ tot) (hsm : pre'.length + p'.data.length ≤ tot) :
    Rel (n + 1) { s with P := updA s.P (bb : Int) p', tot := tot } { d with B := d.B.set k ⟨bb, rb, false, pre', p'.data⟩ } where
  hl := hr.hl.imp fun j z hh hz _ hp2 => hp2.move fun b2 q eb2 _ hq => isO_set hk hB hq
  pl := hr.pl.setB (fun k p hp => (hI.pk k p hp).1) hk hB hp hb hrd hwr hpre rfl rfl hT hsm
  nl := hr.nl
  rf := hr.rf
  lenB := by show (d.B.set k _).length ≤ _; rw [List.length_set]; exact Nat.le_succ_of_le hr.lenB
  kids := hr.kids
theorem bf_small (hI : Inv n s) (hn : n ≤ 100) (hr : Rel n s d) : ∀ x ∈ d.B, Spill.Small x := fun x hx => by
  have h1 := hr.pl.small x hx
  have h2 := hI.tot
  unfold Spill.Small
  omega
theorem rop_Read (hN : n ≤ 100) (hI : Inv n s) (hr : Rel n s d) (ho : OkOp o) (ha : askI o = 6) (hs : Step s o r t er s') (h : Sat w (DgHp d * R)) :
    Calls Tryz.prog 54 #[pp d.c.tb, .int .i64 o.id, .int .i64 o.n] w fun e w' => e = .returned (.tuple #[.string t, .int .i64 er]) ∧ r = 0 ∧ AfterD (n + 1) s' d w R w' := by
  have hT := hI.tree
  have hH := lenH hI hr
  have hl := hI.lenL
  have hlb := hr.lenB
  have hn2 := ho.2.2.2.1.2
  cases hs with
  | read_no _ hy =>
    refine (RRead_none o.id o.n (by omega) (hr.hl.no hy) (dg_open h)).mono ?_
    rintro e w' ⟨rfl, rfl⟩
    exact ⟨rfl, rfl, after_id hr h (Below.refl 0 w)⟩
  | read_mode y _ hy hm =>
    obtain ⟨i, hi, hp, hid, hrel⟩ := hr.hl.at hy
    refine (RRead_mode o.id o.n i (by omega) hi hp (read_no_kind hrel hm) (dg_open h)).mono ?_
    rintro e w' ⟨⟨rfl, S⟩, hR⟩
    exact ⟨rfl, rfl, after_id hr (dg_shut S) hR⟩
  | read_neg y _ hy hm hn =>
    obtain ⟨i, hi, hp, hid, hrel⟩ := hr.hl.at hy
    refine (RRead_neg o.id o.n i hn (by omega) hi hp (read_kind hrel hm) (dg_open h)).mono ?_
    rintro e w' ⟨⟨rfl, S⟩, hR⟩
    exact ⟨rfl, rfl, after_id hr (dg_shut S) hR⟩
  | read_file y k a q m x _ hy ht hm hq hx =>
    obtain ⟨i, hi, hp, hid, hrel⟩ := hr.hl.at hy
    have hrel := hrel.of ht
    have e : d.H[i] = ⟨o.id, 1, y.refs, (a : Int), k, m.r, m.w, m.m, ⟨#[]⟩, 0, 0⟩ := hrel
    have hth := hI.th _ y hy
    unfold ThOk at hth
    rw [ht] at hth
    have hk2 := (hT.files k x hx).2 hth.1
    obtain ⟨j, hj, hj1, hj6, hjl, hnd, hts, hkn⟩ := node_at hT hr hx
    rw [hq]
    refine (RRead_file o.id i a q j hr.rf (by omega) (by omega) hi hp (by rw [e]) (by rw [e]; exact hm) (by rw [e]) (by rw [e]; exact hj) hj1 hjl (by rw [hnd.kind]; exact hk2) (by omega) (by omega) (dg_open h)).mono ?_
    rintro e2 w' ⟨⟨rfl, S⟩, hR⟩
    rw [hnd.text] at S ⊢
    refine ⟨rfl, rfl, ⟨d.c, d.cf, d.H.set i { d.H[i] with at_ := (a : Int) + ((readB x.text a q).size : Int) }, d.N, d.B, d.cap, d.p, d.kp, d.kc⟩, ⟨hr.hl.upd hy hi hid hid ?_, pl_upd hr.pl hy (.inr (by rw [ht]; rintro _ _ (e | e) <;> cases e)) _, hr.nl, hr.rf, Nat.le_succ_of_le hr.lenB, hr.kids⟩, rfl, dg_shut S, hR⟩
    rw [e]
    show (_ : DH) = _
    rw [Int.natCast_add]
  | read_text y tx a q _ hy ht hq =>
    obtain ⟨i, hi, hp, hid, hrel⟩ := hr.hl.at hy
    have hrel := hrel.of ht
    have e : d.H[i] = ⟨o.id, 2, y.refs, (a : Int), 0, false, false, false, tx, 0, 0⟩ := hrel
    have hth := hI.th _ y hy
    unfold ThOk at hth
    rw [ht] at hth
    rw [hq]
    refine (RRead_text o.id i a q (by omega) (by omega) hi hp (by rw [e]) (by rw [e]) (by rw [e]; exact hth.1) (by rw [e]; have := hth.2; dsimp only; omega) (dg_open h)).mono ?_
    rintro e2 w' ⟨⟨rfl, S⟩, hR⟩
    have e3 : d.H[i].data = tx := by rw [e]
    rw [e3] at S ⊢
    refine ⟨rfl, rfl, ⟨d.c, d.cf, d.H.set i { d.H[i] with at_ := (a : Int) + ((readB tx a q).size : Int) }, d.N, d.B, d.cap, d.p, d.kp, d.kc⟩, ⟨hr.hl.upd hy hi hid hid ?_, pl_upd hr.pl hy (.inr (by rw [ht]; rintro _ _ (e | e) <;> cases e)) _, hr.nl, hr.rf, Nat.le_succ_of_le hr.lenB, hr.kids⟩, rfl, dg_shut S, hR⟩
    rw [e]
    show (_ : DH) = _
    rw [Int.natCast_add]
  | read_pipe y bb eb q p _ hy ht hq hp =>
    obtain ⟨i, k, rb, pre, hi, hpl, hid, e, hrel, hk, hpb, hk2, e3, e4⟩ := end_at hI hr hy (.inl ht) hp
    have hsm := bf_small hI hN hr _ (List.getElem_mem hk2)
    have hsm2 := hr.pl.small _ (List.getElem_mem hk2)
    rw [e3] at hsm hsm2
    unfold Spill.Small at hsm
    dsimp only at hsm hsm2
    rw [hq]
    refine (RRead_reader o.id i k q bb rb d.cap d.p pre p.data (by omega) (by omega) hi hpl (by rw [e, ht]; rfl) (by rw [e]) hk2 e3 (by omega) hsm (dg_pipes h)).mono ?_
    rintro e2 w' ⟨⟨rfl, S⟩, hR⟩
    obtain ⟨z, hz⟩ : ∃ z, z = min q p.data.length := ⟨_, rfl⟩
    rw [← hz] at S ⊢
    have hzl : z ≤ p.data.length := by omega
    have hRel := rel_setB hI hr (p' := { p with frm := p.frm + z, data := p.data.drop z }) (pre' := pre ++ p.data.take z) hk2 e3 hp hpb rfl rfl (by rw [List.length_append, List.length_take, e4]; dsimp only; omega) s.tot (Nat.le_refl _) (by rw [List.length_append, List.length_take]; dsimp only; rw [List.length_drop]; omega)
    have e9 : d.B.length = (d.B.set k ⟨bb, rb, false, pre ++ p.data.take z, p.data.drop z⟩).length := by rw [List.length_set]
    exact ⟨rfl, rfl, _, hRel, rfl, dg_shutP (by rw [e9] at S; exact S), hR⟩
  | _ => exfalso; omega
theorem bs_arr (l : List UInt8) (x : ByteArray) : (⟨l.toArray⟩ : ByteArray) ++ x = ⟨(l ++ bs x).toArray⟩ := by
  apply ByteArray.ext
  rw [ByteArray.data_append]
  apply Array.ext'
  simp
theorem rop_Write (hN : n ≤ 100) (hI : Inv n s) (hr : Rel n s d) (hd : o.d.size ≤ 100) (ha : askI o = 7) (hs : Step s o r t er s') (h : Sat w (DgHp d * R)) :
    Calls Tryz.prog 55 #[pp d.c.tb, .int .i64 o.id, .string o.d] w fun e w' => e = .returned (.int .i64 er) ∧ r = 0 ∧ t = ⟨#[]⟩ ∧ AfterD (n + 1) s' d w R w' := by
  have hT := hI.tree
  have hH := lenH hI hr
  have hl := hI.lenL
  have hlb := hr.lenB
  cases hs with
  | write_no _ hy =>
    refine (RWrite_none o.id o.d (by omega) (hr.hl.no hy) (dg_open h)).mono ?_
    rintro e w' ⟨rfl, rfl⟩
    exact ⟨rfl, rfl, rfl, after_id hr h (Below.refl 0 w)⟩
  | write_mode y _ hy hm =>
    obtain ⟨i, hi, hp, hid, hrel⟩ := hr.hl.at hy
    refine (RWrite_mode o.id o.d i (by omega) hi hp (write_no_kind hrel hm) (dg_open h)).mono ?_
    rintro e w' ⟨⟨rfl, S⟩, hR⟩
    exact ⟨rfl, rfl, rfl, after_id hr (dg_shut S) hR⟩
  | write_file y k a m x _ hy ht hm hx =>
    obtain ⟨i, hi, hp, hid, hrel⟩ := hr.hl.at hy
    have hrel := hrel.of ht
    have e : d.H[i] = ⟨o.id, 1, y.refs, (a : Int), k, m.r, m.w, m.m, ⟨#[]⟩, 0, 0⟩ := hrel
    have hth := hI.th _ y hy
    unfold ThOk at hth
    rw [ht] at hth
    have hk2 := (hT.files k x hx).2 hth.1
    obtain ⟨j, hj, hj1, hj6, hjl, hnd, hts, hkn⟩ := node_at hT hr hx
    have hu := hr.nl.used
    have hu2 := hT.used
    have hroom := hr.nl.room
    have hlen := hr.nl.len
    have hW := hr.nl.write hT.room (a := atW x a m) o.d hj1 hjl hj6 (by rw [← hj]; exact hx) hk2
    rw [← hj] at hW
    have hxt := hT.text _ x hx
    have hat : atW x a m ≤ 100000 := by unfold atW; have := hth.2.1; split <;> omega
    have fin : ∀ w', (Sat w' (rtHp d.c (d.H.set i { d.H[i] with at_ := if (fwD d.cf.room d.N j (atW x a m) d.N[j] o.d).1 = 0 then ((atW x a m : Nat) : Int) + (o.d.size : Int) else ((atW x a m : Nat) : Int) }) d.B.length * (rfHp d.cf (fwD d.cf.room d.N j (atW x a m) d.N[j] o.d).2 * (pqHp d.c d.B * (Spill.rpool d.c.rp 40 3 4 d.cap d.p d.B * (all Spill.rbuf d.B * (enA d.kp d.kc kidsE * R))))))) → Ran w w' →
        AfterD (n + 1) { s with F := (writeP s.F k x (atW x a m) o.d).2, L := updA s.L o.id { y with t := .file k (atN s.F k x a m o.d) m } } d w R w' := by
      intro w' S hR
      refine ⟨⟨d.c, d.cf, d.H.set i { d.H[i] with at_ := if (fwD d.cf.room d.N j (atW x a m) d.N[j] o.d).1 = 0 then ((atW x a m : Nat) : Int) + (o.d.size : Int) else ((atW x a m : Nat) : Int) }, (fwD d.cf.room d.N j (atW x a m) d.N[j] o.d).2, d.B, d.cap, d.p, d.kp, d.kc⟩, ⟨hr.hl.upd hy hi hid hid ?_, pl_upd hr.pl hy (.inr (by rw [ht]; rintro _ _ (e | e) <;> cases e)) _, hW.2, hr.rf, Nat.le_succ_of_le hr.lenB, fun h1 => ?_⟩, rfl, dg_shut S, hR⟩
      · rw [e, hW.1]
        show (_ : DH) = ⟨o.id, 1, y.refs, ((atN s.F k x a m o.d : Nat) : Int), k, m.r, m.w, m.m, ⟨#[]⟩, 0, 0⟩
        have e5 : ((atN s.F k x a m o.d : Nat) : Int) = if (writeP s.F k x (atW x a m) o.d).1 = 0 then ((atW x a m : Nat) : Int) + (o.d.size : Int) else ((atW x a m : Nat) : Int) := by
          unfold atN; split <;> simp
        rw [e5]
      · have e6 : (fwD d.cf.room d.N j (atW x a m) d.N[j] o.d).2 = d.N ∨ (fwD d.cf.room d.N j (atW x a m) d.N[j] o.d).2 = d.N.set j { d.N[j] with text := wrB d.N[j].text (atW x a m) o.d } := by
          unfold fwD
          split
          · exact .inl rfl
          · split
            · exact .inl rfl
            · split
              · exact .inl rfl
              · exact .inr rfl
        dsimp only at h1 ⊢
        rcases e6 with e7 | e7
        · simp only [e7] at h1 ⊢; exact hr.kids h1
        · simp only [e7] at h1 ⊢; exact kids_set hr hjl { d.N[j] with text := wrB d.N[j].text (atW x a m) o.d } ⟨rfl, rfl⟩ h1
    cases hmm : m.m with
    | false =>
      have hat2 : atW x a m = a := by unfold atW; rw [hmm]; rfl
      refine (RWrite_file o.id o.d i (atW x a m) j hr.rf (by omega) hi hp (by rw [e]) (by rw [e]; exact hm) (by rw [e]; exact hmm) (by rw [e]; exact hj) hj1 hjl (by omega) (by omega) (by omega) (by rw [hnd.kind]; exact hk2) (by omega) (by rw [e, hat2]) (by omega) (by omega) (dg_open h)).mono ?_
      rintro e2 w' ⟨⟨rfl, S⟩, hR⟩
      exact ⟨by rw [hW.1], rfl, rfl, fin w' S hR⟩
    | true =>
      have hat2 : atW x a m = x.text.size := by unfold atW; rw [hmm]; rfl
      have hkn0 : d.N[j].kn = 0 := by rw [hr.nl.kn j hjl, if_neg (by have := hth.1; omega)]
      refine (RWrite_more o.id o.d i (atW x a m) j hr.rf (by omega) hi hp (by rw [e]) (by rw [e]; exact hm) (by rw [e]; exact hmm) (by rw [e]; exact hj) hj1 hjl (by omega) (by omega) (by omega) (by rw [hnd.kind]; exact hk2) (by omega) (by rw [hat2, hnd.text, hkn0]; rfl) (by omega) (by omega) (dg_open h)).mono ?_
      rintro e2 w' ⟨⟨rfl, S⟩, hR⟩
      exact ⟨by rw [hW.1], rfl, rfl, fin w' S hR⟩
  | write_sink y sp q sp' q' cap cap' l most _ hy ht hsp =>
    obtain ⟨i, hi, hp, hid, hrel⟩ := hr.hl.at hy
    have hrel := hrel.of ht
    have e : d.H[i] = ⟨o.id, 3, y.refs, 0, 0, false, false, false, ⟨l.toArray⟩, (most : Int), 0⟩ := hrel
    have hth := hI.th _ y hy
    unfold ThOk at hth
    rw [ht] at hth
    obtain ⟨_, hlm, hmm⟩ := hth
    have hds : d.H[i].data.size = l.length := by rw [e]; exact List.size_toArray
    have hmo : d.H[i].most = (most : Int) := by rw [e]
    by_cases hfit : l.length + o.d.size ≤ most
    · have e1 : skE l.length most o.d.size = 0 := if_pos hfit
      have e2 : skL l most o.d = l ++ bs o.d := if_pos hfit
      rw [e1, e2]
      refine (RWrite_sink o.id o.d i (by omega) hi hp (by rw [e]) (by omega) (by omega) (by omega) (dg_open h)).mono ?_
      rintro e2 w' ⟨⟨rfl, S⟩, hR⟩
      refine ⟨rfl, rfl, rfl, ⟨d.c, d.cf, d.H.set i { d.H[i] with data := d.H[i].data ++ o.d }, d.N, d.B, d.cap, d.p, d.kp, d.kc⟩, ⟨hr.hl.upd hy hi hid hid ?_, pl_upd hr.pl hy (.inr (by rw [ht]; rintro _ _ (e | e) <;> cases e)) _, hr.nl, hr.rf, Nat.le_succ_of_le hr.lenB, hr.kids⟩, rfl, dg_shut S, hR⟩
      rw [e]
      show (_ : DH) = _
      dsimp only
      rw [bs_arr]
    · have e1 : skE l.length most o.d.size = 15 := if_neg hfit
      have e2 : skL l most o.d = l := if_neg hfit
      rw [e1, e2]
      refine (RWrite_full o.id o.d i (by omega) hi hp (by rw [e]) (by omega) (by omega) (by omega) (dg_open h)).mono ?_
      rintro e2 w' ⟨⟨rfl, S⟩, hR⟩
      have e9 : d.H = d.H.set i d.H[i] := by rw [List.set_getElem_self]
      rw [e9] at S
      refine ⟨rfl, rfl, rfl, ⟨d.c, d.cf, d.H.set i d.H[i], d.N, d.B, d.cap, d.p, d.kp, d.kc⟩, ⟨hr.hl.upd hy hi hid hid ?_, pl_upd hr.pl hy (.inr (by rw [ht]; rintro _ _ (e | e) <;> cases e)) _, hr.nl, hr.rf, Nat.le_succ_of_le hr.lenB, hr.kids⟩, rfl, dg_shut S, hR⟩
      rw [e]
      exact rfl
  | write_full y bb eb p _ hy ht hp hf =>
    obtain ⟨i, k, rb, pre, hi, hpl, hid, e, hrel, hk, hpb, hk2, e3, e4⟩ := end_at hI hr hy (.inr ht) hp
    have hsum := hr.pl.sumh
    have hheld := hI.held
    refine (RWrite_pfull o.id o.d i k bb rb d.cap d.p pre p.data (by omega) hi hpl (by rw [e, ht]; rfl) (by rw [e]) hk2 e3 (by omega) (bf_small hI hN hr) (by omega) (by omega) (by omega) (dg_pipes h)).mono ?_
    rintro e2 w' ⟨⟨rfl, S⟩, hR⟩
    exact ⟨rfl, rfl, rfl, after_id hr (dg_shutP S) hR⟩
  | write_pipe y bb eb p _ hy ht hp hf =>
    obtain ⟨i, k, rb, pre, hi, hpl, hid, e, hrel, hk, hpb, hk2, e3, e4⟩ := end_at hI hr hy (.inr ht) hp
    have hsum := hr.pl.sumh
    have hheld := hI.held
    have hbl := bs_length o.d
    have hsm2 := hr.pl.small _ (List.getElem_mem hk2)
    rw [e3] at hsm2
    dsimp only at hsm2
    have hW := RWrite_pipe o.id (bs o.d) i k bb rb d.cap d.p pre p.data (by omega) hi hpl (by rw [e, ht]; rfl) (by rw [e]) hk2 e3 (by omega) (bf_small hI hN hr) (by omega) (by omega) (by omega) (dg_pipes h)
    rw [to_bs'] at hW
    refine hW.mono ?_
    rintro e2 w' ⟨⟨rfl, S⟩, hR⟩
    have hRel := rel_setB hI hr (p' := { p with data := p.data ++ bs o.d }) (pre' := pre) hk2 e3 hp hpb rfl rfl e4 (s.tot + o.d.size) (by omega) (by dsimp only; rw [List.length_append]; omega)
    have e9 : d.B.length = (d.B.set k ⟨bb, rb, false, pre, p.data ++ bs o.d⟩).length := by rw [List.length_set]
    exact ⟨rfl, rfl, rfl, _, hRel, rfl, dg_shutP (by rw [e9] at S; exact S), hR⟩
  | _ => exfalso; omega
end
end Go.Proofs.YtljlpkeddbfpaaaGreatDoor.Hd

namespace Go.Proofs.YtljlpkeddbfpaaaGreatDoor.Hd
open Go.RowKit Go.Maps Go.Proofs.YtljlpkeddbfpaaaGreatDoor Go.Proofs.YtljlpkeddbfpaaaGreatDoor.Hp
set_option linter.unusedVariables false
attribute [local go_sem] Oper.semAt_some

set_option maxRecDepth 100000 in
set_option maxHeartbeats 8000000 in
theorem asked_File (o : Opr) (z : Value) (w : World) (r er : Int) (t : ByteArray) (Q : World → Prop) (ha : askI o = 0)
    (HC : Calls Tryz.prog 48 #[z, .int .i64 o.node, .bool o.m.r, .bool o.m.w, .bool o.m.m] (w.alloc (opO o)) fun e w' => e = .returned (.tuple #[.int .i64 r, .int .i64 er]) ∧ t = ⟨#[]⟩ ∧ Q w') :
    Calls Tryz.prog 32 #[z, opA o] w fun e w' => e = .returned (.tuple #[.int .i64 r, .string t, .int .i64 er]) ∧ Q w' := by
  have S1 := (Sat.start w).alloc (opO o)
  obtain ⟨e0, e1, e2, e3, e4, e5, e6, e7⟩ := op_at S1
  obtain ⟨w2, hw2⟩ : ∃ w2, w2 = w.alloc (opO o) := ⟨_, rfl⟩
  rw [← hw2] at HC e0 e1 e2 e3 e4 e5 e6 e7
  have hke := kind_eq o
  have b0 : ((wrap64 (o.ask.tmod 8 + 8)).tmod 8 == 0) = true := by rw [hke, ha]; rfl
  have HC := Lib.hid HC
  obtain ⟨oa, oi, on, om, ⟨mr, mw, mm⟩, od⟩ := o
  dsimp only at *
  clear hke ha S1
  go_enter Tryz.func32, Tryz.ntmps32
  go_upto_region 1 with fail
  rw [← hw2]
  clear hw2
  go_wp2_with fail
  refine HC.out.mono ?_
  rintro e w3 ⟨rfl, rfl, hQ⟩
  have hQ := Lib.hid hQ
  clear HC e0 e1 e2 e3 e4 e5 e6 e7
  go_wp2_with fail
  exact bodyPost_ret (v := .tuple #[.int .i64 r, .string ⟨#[]⟩, .int .i64 er]) (by simp [results, Tryz.results32, go_sem]) rfl ⟨rfl, hQ.out⟩
set_option maxRecDepth 100000 in
set_option maxHeartbeats 8000000 in
theorem asked_Text (o : Opr) (z : Value) (w : World) (r er : Int) (t : ByteArray) (Q : World → Prop) (ha : askI o = 1)
    (HC : Calls Tryz.prog 49 #[z, .string o.d] (w.alloc (opO o)) fun e w' => e = .returned (.tuple #[.int .i64 r, .int .i64 er]) ∧ t = ⟨#[]⟩ ∧ Q w') :
    Calls Tryz.prog 32 #[z, opA o] w fun e w' => e = .returned (.tuple #[.int .i64 r, .string t, .int .i64 er]) ∧ Q w' := by
  have S1 := (Sat.start w).alloc (opO o)
  obtain ⟨e0, e1, e2, e3, e4, e5, e6, e7⟩ := op_at S1
  obtain ⟨w2, hw2⟩ : ∃ w2, w2 = w.alloc (opO o) := ⟨_, rfl⟩
  rw [← hw2] at HC e0 e1 e2 e3 e4 e5 e6 e7
  have hke := kind_eq o
  have b0 : ((wrap64 (o.ask.tmod 8 + 8)).tmod 8 == 0) = false := by rw [hke, ha]; rfl
  have b1 : ((wrap64 (o.ask.tmod 8 + 8)).tmod 8 == 1) = true := by rw [hke, ha]; rfl
  have HC := Lib.hid HC
  obtain ⟨oa, oi, on, om, ⟨mr, mw, mm⟩, od⟩ := o
  dsimp only at *
  clear hke ha S1
  go_enter Tryz.func32, Tryz.ntmps32
  go_upto_region 1 with fail
  rw [← hw2]
  clear hw2
  go_wp2_with fail
  refine HC.out.mono ?_
  rintro e w3 ⟨rfl, rfl, hQ⟩
  have hQ := Lib.hid hQ
  clear HC e0 e1 e2 e3 e4 e5 e6 e7
  go_wp2_with fail
  exact bodyPost_ret (v := .tuple #[.int .i64 r, .string ⟨#[]⟩, .int .i64 er]) (by simp [results, Tryz.results32, go_sem]) rfl ⟨rfl, hQ.out⟩
set_option maxRecDepth 100000 in
set_option maxHeartbeats 8000000 in
theorem asked_Sink (o : Opr) (z : Value) (w : World) (r er : Int) (t : ByteArray) (Q : World → Prop) (ha : askI o = 2)
    (HC : Calls Tryz.prog 50 #[z, .int .i64 o.n] (w.alloc (opO o)) fun e w' => e = .returned (.tuple #[.int .i64 r, .int .i64 er]) ∧ t = ⟨#[]⟩ ∧ Q w') :
    Calls Tryz.prog 32 #[z, opA o] w fun e w' => e = .returned (.tuple #[.int .i64 r, .string t, .int .i64 er]) ∧ Q w' := by
  have S1 := (Sat.start w).alloc (opO o)
  obtain ⟨e0, e1, e2, e3, e4, e5, e6, e7⟩ := op_at S1
  obtain ⟨w2, hw2⟩ : ∃ w2, w2 = w.alloc (opO o) := ⟨_, rfl⟩
  rw [← hw2] at HC e0 e1 e2 e3 e4 e5 e6 e7
  have hke := kind_eq o
  have b0 : ((wrap64 (o.ask.tmod 8 + 8)).tmod 8 == 0) = false := by rw [hke, ha]; rfl
  have b1 : ((wrap64 (o.ask.tmod 8 + 8)).tmod 8 == 1) = false := by rw [hke, ha]; rfl
  have b2 : ((wrap64 (o.ask.tmod 8 + 8)).tmod 8 == 2) = true := by rw [hke, ha]; rfl
  have HC := Lib.hid HC
  obtain ⟨oa, oi, on, om, ⟨mr, mw, mm⟩, od⟩ := o
  dsimp only at *
  clear hke ha S1
  go_enter Tryz.func32, Tryz.ntmps32
  go_upto_region 1 with fail
  rw [← hw2]
  clear hw2
  go_wp2_with fail
  refine HC.out.mono ?_
  rintro e w3 ⟨rfl, rfl, hQ⟩
  have hQ := Lib.hid hQ
  clear HC e0 e1 e2 e3 e4 e5 e6 e7
  go_wp2_with fail
  exact bodyPost_ret (v := .tuple #[.int .i64 r, .string ⟨#[]⟩, .int .i64 er]) (by simp [results, Tryz.results32, go_sem]) rfl ⟨rfl, hQ.out⟩
set_option maxRecDepth 100000 in
set_option maxHeartbeats 8000000 in
theorem asked_Pipe (o : Opr) (z : Value) (w : World) (r er : Int) (t : ByteArray) (Q : World → Prop) (ha : askI o = 3)
    (HC : Calls Tryz.prog 51 #[z] (w.alloc (opO o)) fun e w' => ∃ a b : Int, e = .returned (.tuple #[.int .i64 a, .int .i64 b]) ∧ (0 ≤ a ∧ a ≤ 1000000) ∧ (0 ≤ b ∧ b ≤ 1000000) ∧ r = 100 * a + b ∧ er = 0 ∧ t = ⟨#[]⟩ ∧ Q w') :
    Calls Tryz.prog 32 #[z, opA o] w fun e w' => e = .returned (.tuple #[.int .i64 r, .string t, .int .i64 er]) ∧ Q w' := by
  have S1 := (Sat.start w).alloc (opO o)
  obtain ⟨e0, e1, e2, e3, e4, e5, e6, e7⟩ := op_at S1
  obtain ⟨w2, hw2⟩ : ∃ w2, w2 = w.alloc (opO o) := ⟨_, rfl⟩
  rw [← hw2] at HC e0 e1 e2 e3 e4 e5 e6 e7
  have hke := kind_eq o
  have b0 : ((wrap64 (o.ask.tmod 8 + 8)).tmod 8 == 0) = false := by rw [hke, ha]; rfl
  have b1 : ((wrap64 (o.ask.tmod 8 + 8)).tmod 8 == 1) = false := by rw [hke, ha]; rfl
  have b2 : ((wrap64 (o.ask.tmod 8 + 8)).tmod 8 == 2) = false := by rw [hke, ha]; rfl
  have b3 : ((wrap64 (o.ask.tmod 8 + 8)).tmod 8 == 3) = true := by rw [hke, ha]; rfl
  have HC := Lib.hid HC
  obtain ⟨oa, oi, on, om, ⟨mr, mw, mm⟩, od⟩ := o
  dsimp only at *
  clear hke ha S1
  go_enter Tryz.func32, Tryz.ntmps32
  go_upto_region 1 with fail
  rw [← hw2]
  clear hw2
  go_wp2_with fail
  refine HC.out.mono ?_
  rintro e w3 ⟨a, b, rfl, ⟨a0, a1⟩, ⟨b0, b1⟩, rfl, rfl, rfl, hQ⟩
  have hQ := Lib.hid hQ
  clear HC e0 e1 e2 e3 e4 e5 e6 e7
  go_wp2_with fail
  exact bodyPost_ret (v := .tuple #[.int .i64 (100 * a + b), .string ⟨#[]⟩, .int .i64 0]) (by simp [results, Tryz.results32, go_sem]) rfl ⟨rfl, hQ.out⟩
set_option maxRecDepth 100000 in
set_option maxHeartbeats 8000000 in
theorem asked_Ref (o : Opr) (z : Value) (w : World) (r er : Int) (t : ByteArray) (Q : World → Prop) (ha : askI o = 4)
    (HC : Calls Tryz.prog 52 #[z, .int .i64 o.id] (w.alloc (opO o)) fun e w' => e = .returned (.int .i64 er) ∧ r = 0 ∧ t = ⟨#[]⟩ ∧ Q w') :
    Calls Tryz.prog 32 #[z, opA o] w fun e w' => e = .returned (.tuple #[.int .i64 r, .string t, .int .i64 er]) ∧ Q w' := by
  have S1 := (Sat.start w).alloc (opO o)
  obtain ⟨e0, e1, e2, e3, e4, e5, e6, e7⟩ := op_at S1
  obtain ⟨w2, hw2⟩ : ∃ w2, w2 = w.alloc (opO o) := ⟨_, rfl⟩
  rw [← hw2] at HC e0 e1 e2 e3 e4 e5 e6 e7
  have hke := kind_eq o
  have b0 : ((wrap64 (o.ask.tmod 8 + 8)).tmod 8 == 0) = false := by rw [hke, ha]; rfl
  have b1 : ((wrap64 (o.ask.tmod 8 + 8)).tmod 8 == 1) = false := by rw [hke, ha]; rfl
  have b2 : ((wrap64 (o.ask.tmod 8 + 8)).tmod 8 == 2) = false := by rw [hke, ha]; rfl
  have b3 : ((wrap64 (o.ask.tmod 8 + 8)).tmod 8 == 3) = false := by rw [hke, ha]; rfl
  have b4 : ((wrap64 (o.ask.tmod 8 + 8)).tmod 8 == 4) = true := by rw [hke, ha]; rfl
  have HC := Lib.hid HC
  obtain ⟨oa, oi, on, om, ⟨mr, mw, mm⟩, od⟩ := o
  dsimp only at *
  clear hke ha S1
  go_enter Tryz.func32, Tryz.ntmps32
  go_upto_region 1 with fail
  rw [← hw2]
  clear hw2
  go_wp2_with fail
  refine HC.out.mono ?_
  rintro e w3 ⟨rfl, rfl, rfl, hQ⟩
  have hQ := Lib.hid hQ
  clear HC e0 e1 e2 e3 e4 e5 e6 e7
  go_wp2_with fail
  exact bodyPost_ret (v := .tuple #[.int .i64 0, .string ⟨#[]⟩, .int .i64 er]) (by simp [results, Tryz.results32, go_sem]) rfl ⟨rfl, hQ.out⟩
set_option maxRecDepth 100000 in
set_option maxHeartbeats 8000000 in
theorem asked_Unref (o : Opr) (z : Value) (w : World) (r er : Int) (t : ByteArray) (Q : World → Prop) (ha : askI o = 5)
    (HC : Calls Tryz.prog 53 #[z, .int .i64 o.id] (w.alloc (opO o)) fun e w' => e = .returned (.int .i64 er) ∧ r = 0 ∧ t = ⟨#[]⟩ ∧ Q w') :
    Calls Tryz.prog 32 #[z, opA o] w fun e w' => e = .returned (.tuple #[.int .i64 r, .string t, .int .i64 er]) ∧ Q w' := by
  have S1 := (Sat.start w).alloc (opO o)
  obtain ⟨e0, e1, e2, e3, e4, e5, e6, e7⟩ := op_at S1
  obtain ⟨w2, hw2⟩ : ∃ w2, w2 = w.alloc (opO o) := ⟨_, rfl⟩
  rw [← hw2] at HC e0 e1 e2 e3 e4 e5 e6 e7
  have hke := kind_eq o
  have b0 : ((wrap64 (o.ask.tmod 8 + 8)).tmod 8 == 0) = false := by rw [hke, ha]; rfl
  have b1 : ((wrap64 (o.ask.tmod 8 + 8)).tmod 8 == 1) = false := by rw [hke, ha]; rfl
  have b2 : ((wrap64 (o.ask.tmod 8 + 8)).tmod 8 == 2) = false := by rw [hke, ha]; rfl
  have b3 : ((wrap64 (o.ask.tmod 8 + 8)).tmod 8 == 3) = false := by rw [hke, ha]; rfl
  have b4 : ((wrap64 (o.ask.tmod 8 + 8)).tmod 8 == 4) = false := by rw [hke, ha]; rfl
  have b5 : ((wrap64 (o.ask.tmod 8 + 8)).tmod 8 == 5) = true := by rw [hke, ha]; rfl
  have HC := Lib.hid HC
  obtain ⟨oa, oi, on, om, ⟨mr, mw, mm⟩, od⟩ := o
  dsimp only at *
  clear hke ha S1
  go_enter Tryz.func32, Tryz.ntmps32
  go_upto_region 1 with fail
  rw [← hw2]
  clear hw2
  go_wp2_with fail
  refine HC.out.mono ?_
  rintro e w3 ⟨rfl, rfl, rfl, hQ⟩
  have hQ := Lib.hid hQ
  clear HC e0 e1 e2 e3 e4 e5 e6 e7
  go_wp2_with fail
  exact bodyPost_ret (v := .tuple #[.int .i64 0, .string ⟨#[]⟩, .int .i64 er]) (by simp [results, Tryz.results32, go_sem]) rfl ⟨rfl, hQ.out⟩
set_option maxRecDepth 100000 in
set_option maxHeartbeats 8000000 in
theorem asked_Read (o : Opr) (z : Value) (w : World) (r er : Int) (t : ByteArray) (Q : World → Prop) (ha : askI o = 6)
    (HC : Calls Tryz.prog 54 #[z, .int .i64 o.id, .int .i64 o.n] (w.alloc (opO o)) fun e w' => e = .returned (.tuple #[.string t, .int .i64 er]) ∧ r = 0 ∧ Q w') :
    Calls Tryz.prog 32 #[z, opA o] w fun e w' => e = .returned (.tuple #[.int .i64 r, .string t, .int .i64 er]) ∧ Q w' := by
  have S1 := (Sat.start w).alloc (opO o)
  obtain ⟨e0, e1, e2, e3, e4, e5, e6, e7⟩ := op_at S1
  obtain ⟨w2, hw2⟩ : ∃ w2, w2 = w.alloc (opO o) := ⟨_, rfl⟩
  rw [← hw2] at HC e0 e1 e2 e3 e4 e5 e6 e7
  have hke := kind_eq o
  have b0 : ((wrap64 (o.ask.tmod 8 + 8)).tmod 8 == 0) = false := by rw [hke, ha]; rfl
  have b1 : ((wrap64 (o.ask.tmod 8 + 8)).tmod 8 == 1) = false := by rw [hke, ha]; rfl
  have b2 : ((wrap64 (o.ask.tmod 8 + 8)).tmod 8 == 2) = false := by rw [hke, ha]; rfl
  have b3 : ((wrap64 (o.ask.tmod 8 + 8)).tmod 8 == 3) = false := by rw [hke, ha]; rfl
  have b4 : ((wrap64 (o.ask.tmod 8 + 8)).tmod 8 == 4) = false := by rw [hke, ha]; rfl
  have b5 : ((wrap64 (o.ask.tmod 8 + 8)).tmod 8 == 5) = false := by rw [hke, ha]; rfl
  have b6 : ((wrap64 (o.ask.tmod 8 + 8)).tmod 8 == 6) = true := by rw [hke, ha]; rfl
  have HC := Lib.hid HC
  obtain ⟨oa, oi, on, om, ⟨mr, mw, mm⟩, od⟩ := o
  dsimp only at *
  clear hke ha S1
  go_enter Tryz.func32, Tryz.ntmps32
  go_upto_region 1 with fail
  rw [← hw2]
  clear hw2
  go_wp2_with fail
  refine HC.out.mono ?_
  rintro e w3 ⟨rfl, rfl, hQ⟩
  have hQ := Lib.hid hQ
  clear HC e0 e1 e2 e3 e4 e5 e6 e7
  go_wp2_with fail
  exact bodyPost_ret (v := .tuple #[.int .i64 0, .string t, .int .i64 er]) (by simp [results, Tryz.results32, go_sem]) rfl ⟨rfl, hQ.out⟩
set_option maxRecDepth 100000 in
set_option maxHeartbeats 8000000 in
theorem asked_Write (o : Opr) (z : Value) (w : World) (r er : Int) (t : ByteArray) (Q : World → Prop) (ha : askI o = 7)
    (HC : Calls Tryz.prog 55 #[z, .int .i64 o.id, .string o.d] (w.alloc (opO o)) fun e w' => e = .returned (.int .i64 er) ∧ r = 0 ∧ t = ⟨#[]⟩ ∧ Q w') :
    Calls Tryz.prog 32 #[z, opA o] w fun e w' => e = .returned (.tuple #[.int .i64 r, .string t, .int .i64 er]) ∧ Q w' := by
  have S1 := (Sat.start w).alloc (opO o)
  obtain ⟨e0, e1, e2, e3, e4, e5, e6, e7⟩ := op_at S1
  obtain ⟨w2, hw2⟩ : ∃ w2, w2 = w.alloc (opO o) := ⟨_, rfl⟩
  rw [← hw2] at HC e0 e1 e2 e3 e4 e5 e6 e7
  have hke := kind_eq o
  have b0 : ((wrap64 (o.ask.tmod 8 + 8)).tmod 8 == 0) = false := by rw [hke, ha]; rfl
  have b1 : ((wrap64 (o.ask.tmod 8 + 8)).tmod 8 == 1) = false := by rw [hke, ha]; rfl
  have b2 : ((wrap64 (o.ask.tmod 8 + 8)).tmod 8 == 2) = false := by rw [hke, ha]; rfl
  have b3 : ((wrap64 (o.ask.tmod 8 + 8)).tmod 8 == 3) = false := by rw [hke, ha]; rfl
  have b4 : ((wrap64 (o.ask.tmod 8 + 8)).tmod 8 == 4) = false := by rw [hke, ha]; rfl
  have b5 : ((wrap64 (o.ask.tmod 8 + 8)).tmod 8 == 5) = false := by rw [hke, ha]; rfl
  have b6 : ((wrap64 (o.ask.tmod 8 + 8)).tmod 8 == 6) = false := by rw [hke, ha]; rfl
  have HC := Lib.hid HC
  obtain ⟨oa, oi, on, om, ⟨mr, mw, mm⟩, od⟩ := o
  dsimp only at *
  clear hke ha S1
  go_enter Tryz.func32, Tryz.ntmps32
  go_upto_region 1 with fail
  rw [← hw2]
  clear hw2
  go_wp2_with fail
  refine HC.out.mono ?_
  rintro e w3 ⟨rfl, rfl, rfl, hQ⟩
  have hQ := Lib.hid hQ
  clear HC e0 e1 e2 e3 e4 e5 e6 e7
  go_wp2_with fail
  exact bodyPost_ret (v := .tuple #[.int .i64 0, .string ⟨#[]⟩, .int .i64 er]) (by simp [results, Tryz.results32, go_sem]) rfl ⟨rfl, hQ.out⟩
section
variable {n : Nat} {s s' : Sg} {d : Dg} {o : Opr} {r er : Int} {t : ByteArray} {w : World} {R : Hp}
theorem asked_rel (hN : n ≤ 100) (hI : Inv n s) (hr : Rel n s d) (ho : OkOp o) (hd : o.d.size ≤ 100) (hs : Step s o r t er s') (h : Sat w (DgHp d * R)) :
    Calls Tryz.prog 32 #[pp d.c.tb, opA o] w fun e w' => e = .returned (.tuple #[.int .i64 r, .string t, .int .i64 er]) ∧ AfterD (n + 1) s' d w R w' := by
  have h2 := h.old (opO o)
  have back : ∀ w', AfterD (n + 1) s' d (w.alloc (opO o)) R w' → AfterD (n + 1) s' d w R w' := by
    rintro w' ⟨d', h1, h3, S, hR⟩
    exact ⟨d', h1, h3, S, Below.trans (Ran.new (Below.refl 0 w) _) hR⟩
  rcases askI_cases o with ha | ha | ha | ha | ha | ha | ha | ha
  · exact asked_File o _ w r er t _ ha ((rop_File hN hI hr ha hs h2).mono fun e w' ⟨h1, h3, h4⟩ => ⟨h1, h3, back _ h4⟩)
  · exact asked_Text o _ w r er t _ ha ((rop_Text hN hI hr hd ha hs h2).mono fun e w' ⟨h1, h3, h4⟩ => ⟨h1, h3, back _ h4⟩)
  · exact asked_Sink o _ w r er t _ ha ((rop_Sink hN hI hr ho ha hs h2).mono fun e w' ⟨h1, h3, h4⟩ => ⟨h1, h3, back _ h4⟩)
  · exact asked_Pipe o _ w r er t _ ha ((rop_Pipe hN hI hr ha hs h2).mono fun e w' ⟨a, b, h1, h3, h4, h5, h6, h7, h8⟩ => ⟨a, b, h1, h3, h4, h5, h6, h7, back _ h8⟩)
  · exact asked_Ref o _ w r er t _ ha ((rop_Ref hN hI hr ha hs h2).mono fun e w' ⟨h1, h3, h4, h5⟩ => ⟨h1, h3, h4, back _ h5⟩)
  · exact asked_Unref o _ w r er t _ ha ((rop_Unref hN hI hr ha hs h2).mono fun e w' ⟨h1, h3, h4, h5⟩ => ⟨h1, h3, h4, back _ h5⟩)
  · exact asked_Read o _ w r er t _ ha ((rop_Read hN hI hr ho ha hs h2).mono fun e w' ⟨h1, h3, h4⟩ => ⟨h1, h3, back _ h4⟩)
  · exact asked_Write o _ w r er t _ ha ((rop_Write hN hI hr hd ha hs h2).mono fun e w' ⟨h1, h3, h4, h5⟩ => ⟨h1, h3, h4, back _ h5⟩)
end
end Go.Proofs.YtljlpkeddbfpaaaGreatDoor.Hd

