/- HandlesPlays, part 20 of 31: the texts PrL PrM PrO, joined by a program. -/
import Derived.Test.YteienbdbhnikbaaGreatDoorPw19
namespace Go.Proofs.YteienbdbhnikbaaGreatDoor.Pr
open Go.RowKit Go.Maps Go.Proofs.YteienbdbhnikbaaGreatDoor Go.Proofs.YteienbdbhnikbaaGreatDoor.Hp Go.Proofs.YteienbdbhnikbaaGreatDoor.Hd
set_option linter.unusedVariables false

def PHP (c : Pls) (N : Nat) (b : Int → Int) (most : Int) (p : Pc) (nl : List Nt) (ms : List Nat) (P : Sg → Prop) : Hp := St c N (fOf b p nl) (gOf p nl) P * (LG p most nl ms * (notesHp p nl * pcHp p))
section
variable {c : Pls} {N : Nat} {b : Int → Int} {most : Int} {p : Pc} {nl : List Nt} {ms : List Nat} {w : World} {R : Hp} {P : Sg → Prop}
theorem fd_set (hl : Link c p) (hN : N ≤ 700000) (hb : Base b) {i : Nat} (hi : i < 16) (n : Int) (hn : 1 ≤ n → 1 ≤ fOf b p nl n) (hm4 : ms.length ≤ 4) (hnl : nl.length ≤ 1000000) (h0 : 0 ≤ (p.sl i).mark) (h : Sat w (PHP c N b most p nl ms P * R)) :
    Calls Tryz.prog 56 #[pp p.pb, slP p.pb i, .int .i64 n] w fun e w' => ∃ er p' nl', e = .returned (.int .i64 er) ∧ SetR most i n p nl ms er p' nl' ∧ Sat w' (PH c (N + 2) b most p' nl' ms * R) ∧ Ran w w' := by
  have h16 := hl.len
  have hil : i < p.fds.length := by omega
  have hsl := sl_fd hi hil
  rw [hsl] at h0
  have h1 := h.perm (show _ = St c N (fOf b p nl) (gOf p nl) P * LG p most nl ms * (pcHp p * (notesHp p nl * R)) by unfold PHP; ac_rfl)
  by_cases hm : (ms.length : Int) ≤ p.fds[i].mark
  · refine (set_now p i n (ms.length : Int) _ (St0 c (N + 1) (fun k => fOf b p nl k + dl n k) (gOf p nl) * LG p most nl ms) (St0 c (N + 1 + 1) (fun k => (fOf b p nl k + dl n k) - dl p.fds[i].has k) (gOf p nl) * LG p most nl ms) w (notesHp p nl * R) hi h16 hm t_marks (t_ref hl (by omega) n hn) (t_unref hl (by omega) _ fun h1 => ?_) h1).mono ?_
    · have h2 := f_has (nl := nl) hb hil h1
      have h3 := dl0 n p.fds[i].has
      exact ⟨by omega, fun e => h2.2 (by omega)⟩
    · rintro e w' ⟨⟨rfl, S⟩, hR⟩
      refine ⟨0, p.put i ⟨n, (p.sl i).mark⟩, nl, rfl, .now (by rw [hsl]; exact hm), ?_, hR⟩
      rw [put_fd hi, hsl, ← slot_has p i n hil]
      refine S.perm ?_
      unfold PH
      rw [show (fun k => (fOf b p nl k + dl n k) - dl p.fds[i].has k) = fOf b (p.has i n) nl by
        funext k
        rw [slot_has p i n hil, f_slot hil]
        dsimp only
        omega]
      show St0 c (N + 2) (fOf b (p.has i n) nl) (gOf p nl) * LG p most nl ms * (pcHp (p.has i n) * (notesHp p nl * R)) = St0 c (N + 2) (fOf b (p.has i n) nl) (gOf p nl) * (LG p most nl ms * (notesHp p nl * pcHp (p.has i n))) * R
      ac_rfl
  · have hm' : p.fds[i].mark < (ms.length : Int) := by omega
    have hne : ms ≠ [] := fun e => by rw [e] at hm'; have : p.fds[i].mark < 0 := hm'; omega
    by_cases hf : most ≤ (nl.length : Int)
    · refine (set_full p i n (ms.length : Int) _ w (notesHp p nl * R) hi h16 hm' t_marks (t_full hne hf) h1).mono ?_
      rintro e w' ⟨⟨rfl, S⟩, hR⟩
      refine ⟨43, p, nl, rfl, .full (by rw [hsl]; exact hm') hf, ?_, hR⟩
      have := st_more (M := N + 2) (by omega) (st_weak (S.perm (show _ = St c N (fOf b p nl) (gOf p nl) P * (LG p most nl ms * (pcHp p * (notesHp p nl * R))) by ac_rfl)))
      exact this.perm (by unfold PH; ac_rfl)
    · have hlt : (nl.length : Int) < most := by omega
      have hN8 : N ≤ 800000 := by omega
      have HTN := fun (sb wb : Nat) => t_note (c := c) (N := N) (f := fOf b p nl) (g := gOf p nl) (P := P) (p := p) hnl hm4 hne hlt i p.fds[i] sb wb
      have HTT := fun (sb wb : Nat) => t_ref (c := c) (N := N) (f := fOf b p nl) (g := gOf p nl) (P := P) (p := p) (L := LG p most (nl ++ [Nt.mk i p.fds[i] sb wb]) ms) hl hN8 n hn
      refine (set_noted p i n (ms.length : Int) (St c N (fOf b p nl) (gOf p nl) P * LG p most nl ms) (fun sb wb => St c N (fOf b p nl) (gOf p nl) P * LG p most (nl ++ [Nt.mk i p.fds[i] sb wb]) ms) (fun sb wb => St0 c (N + 1) (fun k => fOf b p nl k + dl n k) (gOf p nl) * LG p most (nl ++ [Nt.mk i p.fds[i] sb wb]) ms) w (notesHp p nl * R) hi h16 hm' t_marks HTN HTT h1).mono ?_
      rintro e w' ⟨⟨rfl, sb, wb, S⟩, hR⟩
      refine ⟨0, p.put i ⟨n, (ms.length : Int)⟩, nl ++ [Nt.mk i (p.sl i) sb wb], rfl, .noted sb wb (by rw [hsl]; exact hm') (by omega), ?_, hR⟩
      rw [put_fd hi, hsl]
      have S2 := st_more (M := N + 2) (by omega) (S.perm (show _ = St0 c (N + 1) (fun k => fOf b p nl k + dl n k) (gOf p nl) * (LG p most (nl ++ [Nt.mk i p.fds[i] sb wb]) ms * (noteHp p.pb i p.tx sb wb p.fds[i] * (pcHp (p.slot i ⟨n, (ms.length : Int)⟩) * (notesHp p nl * R)))) by ac_rfl))
      refine S2.perm ?_
      unfold PH
      rw [show (fun k => fOf b p nl k + dl n k) = fOf b (p.slot i ⟨n, (ms.length : Int)⟩) (nl ++ [Nt.mk i p.fds[i] sb wb]) by
        funext k
        rw [f_snoc, f_slot hil]
        dsimp only
        rw [if_pos hi]
        omega]
      rw [show gOf p nl = gOf (p.slot i ⟨n, (ms.length : Int)⟩) (nl ++ [Nt.mk i p.fds[i] sb wb]) by
        funext k
        rw [g_snoc]
        dsimp only
        rw [if_neg (fun e => by omega)]
        show _ = gOf p nl k + 0
        omega]
      have e9 : notesHp (p.slot i ⟨n, (ms.length : Int)⟩) (nl ++ [Nt.mk i p.fds[i] sb wb]) = noteHp p.pb i p.tx sb wb p.fds[i] * notesHp p nl := by
        unfold notesHp
        rw [all_snoc]
        show noteQ p.pb p.tx p.fx ⟨i, p.fds[i], sb, wb⟩ * _ = _
        unfold noteQ
        rw [if_pos hi]
        rfl
      rw [e9]
      show St0 c (N + 2) _ _ * (LG p most _ ms * _) = St0 c (N + 2) _ _ * (LG p most _ ms * _) * R
      ac_rfl
theorem g_dirSlot (s : Sl) (k : Int) : gOf (p.dirSlot s) nl k = gOf p nl k - (if k = p.dir.has then 1 else 0) + if k = s.has then 1 else 0 := by
  show (if k = s.has then 1 else 0) + nD nl k = (if k = p.dir.has then 1 else 0) + nD nl k - (if k = p.dir.has then 1 else 0) + if k = s.has then 1 else 0
  omega
theorem dir_set (hl : Link c p) (hN : N ≤ 700000) (n : Int) (hn : ∀ s, P s → ∃ x, Hd.find s.F.L n = some x) (hm4 : ms.length ≤ 4) (hnl : nl.length ≤ 1000000) (h0 : 0 ≤ p.dir.mark) (h : Sat w (PHP c N b most p nl ms P * R)) :
    Calls Tryz.prog 56 #[pp p.pb, slD p.pb, .int .i64 n] w fun e w' => ∃ er p' nl', e = .returned (.int .i64 er) ∧ SetR most 16 n p nl ms er p' nl' ∧ Sat w' (PH c (N + 2) b most p' nl' ms * R) ∧ Ran w w' := by
  have h16 := hl.len
  have hsl : p.sl 16 = p.dir := rfl
  have h1 := h.perm (show _ = St c N (fOf b p nl) (gOf p nl) P * LG p most nl ms * (pcHp p * (notesHp p nl * R)) by unfold PHP; ac_rfl)
  by_cases hm : (ms.length : Int) ≤ p.dir.mark
  · refine (dir_now p n (ms.length : Int) _ (St0 c (N + 1) (fOf b p nl) (fun k => gOf p nl k + if k = n then 1 else 0) * LG p most nl ms) (St0 c (N + 1 + 1) (fOf b p nl) (fun k => (gOf p nl k + if k = n then 1 else 0) - if k = p.dir.has then 1 else 0) * LG p most nl ms) w (notesHp p nl * R) h16 hm t_marks (t_hold hl (by omega) n hn) (t_drop hl (by omega) _ ?_) h1).mono ?_
    · have h2 : 1 ≤ gOf p nl p.dir.has := by
        unfold gOf
        rw [if_pos rfl]
        have := nD0 nl p.dir.has
        omega
      show 1 ≤ gOf p nl p.dir.has + if p.dir.has = n then 1 else 0
      split <;> omega
    · rintro e w' ⟨⟨rfl, S⟩, hR⟩
      refine ⟨0, p.dirSlot ⟨n, p.dir.mark⟩, nl, rfl, .now hm, ?_, hR⟩
      refine S.perm ?_
      unfold PH
      rw [show (fun k => (gOf p nl k + if k = n then 1 else 0) - if k = p.dir.has then 1 else 0) = gOf (p.dirSlot ⟨n, p.dir.mark⟩) nl by
        funext k
        rw [g_dirSlot]
        dsimp only
        omega]
      show St0 c (N + 2) (fOf b p nl) _ * LG p most nl ms * (pcHp (p.dirSlot ⟨n, p.dir.mark⟩) * (notesHp p nl * R)) = St0 c (N + 2) (fOf b p nl) _ * (LG p most nl ms * (notesHp p nl * pcHp (p.dirSlot ⟨n, p.dir.mark⟩))) * R
      ac_rfl
  · have hm' : p.dir.mark < (ms.length : Int) := by omega
    have hne : ms ≠ [] := fun e => by rw [e] at hm'; have : p.dir.mark < 0 := hm'; omega
    by_cases hf : most ≤ (nl.length : Int)
    · refine (dir_full p n (ms.length : Int) _ w (notesHp p nl * R) h16 hm' t_marks (t_full hne hf) h1).mono ?_
      rintro e w' ⟨⟨rfl, S⟩, hR⟩
      refine ⟨43, p, nl, rfl, .full hm' hf, ?_, hR⟩
      have := st_more (M := N + 2) (by omega) (st_weak (S.perm (show _ = St c N (fOf b p nl) (gOf p nl) P * (LG p most nl ms * (pcHp p * (notesHp p nl * R))) by ac_rfl)))
      exact this.perm (by unfold PH; ac_rfl)
    · have hlt : (nl.length : Int) < most := by omega
      have hN8 : N ≤ 800000 := by omega
      have HTN := fun (sb wb : Nat) => t_note (c := c) (N := N) (f := fOf b p nl) (g := gOf p nl) (P := P) (p := p) hnl hm4 hne hlt 16 p.dir sb wb
      have HTT := fun (sb wb : Nat) => t_hold (c := c) (N := N) (f := fOf b p nl) (g := gOf p nl) (P := P) (p := p) (L := LG p most (nl ++ [Nt.mk 16 p.dir sb wb]) ms) hl hN8 n hn
      refine (dir_noted p n (ms.length : Int) (St c N (fOf b p nl) (gOf p nl) P * LG p most nl ms) (fun sb wb => St c N (fOf b p nl) (gOf p nl) P * LG p most (nl ++ [Nt.mk 16 p.dir sb wb]) ms) (fun sb wb => St0 c (N + 1) (fOf b p nl) (fun k => gOf p nl k + if k = n then 1 else 0) * LG p most (nl ++ [Nt.mk 16 p.dir sb wb]) ms) w (notesHp p nl * R) h16 hm' t_marks HTN HTT h1).mono ?_
      rintro e w' ⟨⟨rfl, sb, wb, S⟩, hR⟩
      refine ⟨0, p.dirSlot ⟨n, (ms.length : Int)⟩, nl ++ [Nt.mk 16 p.dir sb wb], rfl, .noted sb wb hm' (by omega), ?_, hR⟩
      have S2 := st_more (M := N + 2) (by omega) (S.perm (show _ = St0 c (N + 1) (fOf b p nl) (fun k => gOf p nl k + if k = n then 1 else 0) * (LG p most (nl ++ [Nt.mk 16 p.dir sb wb]) ms * (noteD p.pb p.fx sb wb p.dir * (pcHp (p.dirSlot ⟨n, (ms.length : Int)⟩) * (notesHp p nl * R)))) by ac_rfl))
      refine S2.perm ?_
      unfold PH
      rw [show (fun k => gOf p nl k + if k = n then 1 else 0) = gOf (p.dirSlot ⟨n, (ms.length : Int)⟩) (nl ++ [Nt.mk 16 p.dir sb wb]) by
        funext k
        rw [g_snoc, g_dirSlot]
        have e7 : (if (16 : Nat) = 16 ∧ k = p.dir.has then (1 : Int) else 0) = if k = p.dir.has then 1 else 0 := by simp
        show gOf p nl k + (if k = n then 1 else 0) = gOf p nl k - (if k = p.dir.has then 1 else 0) + (if k = n then 1 else 0) + (if (16 : Nat) = 16 ∧ k = p.dir.has then (1 : Int) else 0)
        rw [e7]
        omega]
      rw [show fOf b p nl = fOf b (p.dirSlot ⟨n, (ms.length : Int)⟩) (nl ++ [Nt.mk 16 p.dir sb wb]) by
        funext k
        rw [f_snoc]
        dsimp only
        rw [if_neg (by omega)]
        show _ = fOf b p nl k + 0
        omega]
      have e9 : notesHp (p.dirSlot ⟨n, (ms.length : Int)⟩) (nl ++ [Nt.mk 16 p.dir sb wb]) = noteD p.pb p.fx sb wb p.dir * notesHp p nl := by
        unfold notesHp
        rw [all_snoc]
        show noteQ p.pb p.tx p.fx ⟨16, p.dir, sb, wb⟩ * _ = _
        rfl
      rw [e9]
      show St0 c (N + 2) _ _ * (LG p most _ ms * _) = St0 c (N + 2) _ _ * (LG p most _ ms * _) * R
      ac_rfl
theorem mask_set (hl : Link c p) (hN : N ≤ 700000) (n : Int) (hm4 : ms.length ≤ 4) (hnl : nl.length ≤ 1000000) (h0 : 0 ≤ p.mask.mark) (h : Sat w (PHP c N b most p nl ms P * R)) :
    Calls Tryz.prog 56 #[pp p.pb, slM p.pb, .int .i64 n] w fun e w' => ∃ er p' nl', e = .returned (.int .i64 er) ∧ SetR most 17 n p nl ms er p' nl' ∧ Sat w' (PH c (N + 2) b most p' nl' ms * R) ∧ Ran w w' := by
  have h16 := hl.len
  have hsl : p.sl 17 = p.mask := rfl
  have h1 := h.perm (show _ = St c N (fOf b p nl) (gOf p nl) P * LG p most nl ms * (pcHp p * (notesHp p nl * R)) by unfold PHP; ac_rfl)
  by_cases hm : (ms.length : Int) ≤ p.mask.mark
  · refine (mask_now p n (ms.length : Int) _ (St0 c (N + 1) (fOf b p nl) (gOf p nl) * LG p most nl ms) (St0 c (N + 1 + 1) (fOf b p nl) (gOf p nl) * LG p most nl ms) w (notesHp p nl * R) h16 hm t_marks (t_none n) (t_none _) h1).mono ?_
    rintro e w' ⟨⟨rfl, S⟩, hR⟩
    refine ⟨0, p.maskSlot ⟨n, p.mask.mark⟩, nl, rfl, .now hm, ?_, hR⟩
    refine S.perm ?_
    show St0 c (N + 2) (fOf b p nl) (gOf p nl) * LG p most nl ms * (pcHp (p.maskSlot ⟨n, p.mask.mark⟩) * (notesHp p nl * R)) = St0 c (N + 2) (fOf b p nl) (gOf p nl) * (LG p most nl ms * (notesHp p nl * pcHp (p.maskSlot ⟨n, p.mask.mark⟩))) * R
    ac_rfl
  · have hm' : p.mask.mark < (ms.length : Int) := by omega
    have hne : ms ≠ [] := fun e => by rw [e] at hm'; have : p.mask.mark < 0 := hm'; omega
    by_cases hf : most ≤ (nl.length : Int)
    · refine (mask_full p n (ms.length : Int) _ w (notesHp p nl * R) h16 hm' t_marks (t_full hne hf) h1).mono ?_
      rintro e w' ⟨⟨rfl, S⟩, hR⟩
      refine ⟨43, p, nl, rfl, .full hm' hf, ?_, hR⟩
      have := st_more (M := N + 2) (by omega) (st_weak (S.perm (show _ = St c N (fOf b p nl) (gOf p nl) P * (LG p most nl ms * (pcHp p * (notesHp p nl * R))) by ac_rfl)))
      exact this.perm (by unfold PH; ac_rfl)
    · have hlt : (nl.length : Int) < most := by omega
      have hN8 : N ≤ 800000 := by omega
      have HTN := fun (sb wb : Nat) => t_note (c := c) (N := N) (f := fOf b p nl) (g := gOf p nl) (P := P) (p := p) hnl hm4 hne hlt 17 p.mask sb wb
      have HTT := fun (sb wb : Nat) => t_none (c := c) (N := N) (f := fOf b p nl) (g := gOf p nl) (P := P) (p := p) (L := LG p most (nl ++ [Nt.mk 17 p.mask sb wb]) ms) n
      refine (mask_noted p n (ms.length : Int) (St c N (fOf b p nl) (gOf p nl) P * LG p most nl ms) (fun sb wb => St c N (fOf b p nl) (gOf p nl) P * LG p most (nl ++ [Nt.mk 17 p.mask sb wb]) ms) (fun sb wb => St0 c (N + 1) (fOf b p nl) (gOf p nl) * LG p most (nl ++ [Nt.mk 17 p.mask sb wb]) ms) w (notesHp p nl * R) h16 hm' t_marks HTN HTT h1).mono ?_
      rintro e w' ⟨⟨rfl, sb, wb, S⟩, hR⟩
      refine ⟨0, p.maskSlot ⟨n, (ms.length : Int)⟩, nl ++ [Nt.mk 17 p.mask sb wb], rfl, .noted sb wb hm' (by omega), ?_, hR⟩
      have S2 := st_more (M := N + 2) (by omega) (S.perm (show _ = St0 c (N + 1) (fOf b p nl) (gOf p nl) * (LG p most (nl ++ [Nt.mk 17 p.mask sb wb]) ms * (noteM p.pb p.fx sb wb p.mask * (pcHp (p.maskSlot ⟨n, (ms.length : Int)⟩) * (notesHp p nl * R)))) by ac_rfl))
      refine S2.perm ?_
      unfold PH
      rw [show gOf p nl = gOf (p.maskSlot ⟨n, (ms.length : Int)⟩) (nl ++ [Nt.mk 17 p.mask sb wb]) by
        funext k
        rw [g_snoc]
        dsimp only
        rw [if_neg (fun e => by omega)]
        show _ = gOf p nl k + 0
        omega]
      rw [show fOf b p nl = fOf b (p.maskSlot ⟨n, (ms.length : Int)⟩) (nl ++ [Nt.mk 17 p.mask sb wb]) by
        funext k
        rw [f_snoc]
        dsimp only
        rw [if_neg (by omega)]
        show _ = fOf b p nl k + 0
        omega]
      have e9 : notesHp (p.maskSlot ⟨n, (ms.length : Int)⟩) (nl ++ [Nt.mk 17 p.mask sb wb]) = noteM p.pb p.fx sb wb p.mask * notesHp p nl := by
        unfold notesHp
        rw [all_snoc]
        show noteQ p.pb p.tx p.fx ⟨17, p.mask, sb, wb⟩ * _ = _
        rfl
      rw [e9]
      show St0 c (N + 2) _ _ * (LG p most _ ms * _) = St0 c (N + 2) _ _ * (LG p most _ ms * _) * R
      ac_rfl
end
end Go.Proofs.YteienbdbhnikbaaGreatDoor.Pr

namespace Go.Proofs.YteienbdbhnikbaaGreatDoor.Pr
open Go.RowKit Go.Maps Go.Proofs.YteienbdbhnikbaaGreatDoor Go.Proofs.YteienbdbhnikbaaGreatDoor.Hp Go.Proofs.YteienbdbhnikbaaGreatDoor.Hd
set_option linter.unusedVariables false
attribute [local go_sem] Oper.semAt_some

theorem Pc.put_same (p : Pc) (q : Nat) (s : Sl) : (p.put q s).pb = p.pb ∧ (p.put q s).fb = p.fb ∧ (p.put q s).tb = p.tb ∧ (p.put q s).lb = p.lb ∧ (p.put q s).fx = p.fx ∧ (p.put q s).tx = p.tx ∧ (p.put q s).fds.length = p.fds.length := by
  unfold Pc.put
  split
  · exact ⟨rfl, rfl, rfl, rfl, rfl, rfl, List.length_set ..⟩
  · split
    · exact ⟨rfl, rfl, rfl, rfl, rfl, rfl, rfl⟩
    · exact ⟨rfl, rfl, rfl, rfl, rfl, rfl, rfl⟩
/-- A process whose notes have been undone. -/
def resto (l : List Nt) (p : Pc) : Pc := l.foldr (fun x p => p.put x.q x.was) p
theorem resto_same : ∀ (l : List Nt) (p : Pc), (resto l p).pb = p.pb ∧ (resto l p).fb = p.fb ∧ (resto l p).tb = p.tb ∧ (resto l p).lb = p.lb ∧ (resto l p).fx = p.fx ∧ (resto l p).tx = p.tx ∧ (resto l p).fds.length = p.fds.length
  | [], p => ⟨rfl, rfl, rfl, rfl, rfl, rfl, rfl⟩
  | x :: l, p => by
    obtain ⟨h1, h2, h3, h4, h5, h6, h7⟩ := resto_same l p
    obtain ⟨g1, g2, g3, g4, g5, g6, g7⟩ := Pc.put_same (resto l p) x.q x.was
    exact ⟨g1.trans h1, g2.trans h2, g3.trans h3, g4.trans h4, g5.trans h5, g6.trans h6, g7.trans h7⟩
theorem Link.put {c : Pls} {p : Pc} (h : Link c p) (q : Nat) (s : Sl) : Link c (p.put q s) := by
  obtain ⟨g1, g2, g3, g4, g5, g6, g7⟩ := Pc.put_same p q s
  exact ⟨g2.trans h.fb, g3.trans h.tb, g7.trans h.len⟩
theorem Link.resto {c : Pls} {p : Pc} (h : Link c p) (l : List Nt) : Link c (resto l p) := by
  obtain ⟨g1, g2, g3, g4, g5, g6, g7⟩ := resto_same l p
  exact ⟨g2.trans h.fb, g3.trans h.tb, g7.trans h.len⟩
section
variable {c : Pls} {N : Nat} {b : Int → Int} {most : Int} {p : Pc} {nl : List Nt} {ms : List Nat} {w : World} {R L : Hp}
/-- One note undone. -/
theorem one_back (hl : Link c p) (hN : N ≤ 700000) (hb : Base b) (x : Nt) (hq : x.q ≤ 17) (nl : List Nt) (w : World) (S : Hp) (h : Sat w (St0 c N (fOf b p (nl ++ [x])) (gOf p (nl ++ [x])) * (notesHp p (nl ++ [x]) * pcHp p) * S)) :
    Calls Tryz.prog 76 #[pp x.sb, pp x.wb] w fun e w' => (∃ v, e = .returned v) ∧ Sat w' (St0 c (N + 1) (fOf b (p.put x.q x.was) nl) (gOf (p.put x.q x.was) nl) * (notesHp p nl * pcHp (p.put x.q x.was)) * S) ∧ Ran w w' := by
  have h16 := hl.len
  obtain ⟨q, was, sb, wb⟩ := x
  dsimp only at hq ⊢
  have e0 : notesHp p (nl ++ [Nt.mk q was sb wb]) = noteQ p.pb p.tx p.fx (Nt.mk q was sb wb) * notesHp p nl := by
    unfold notesHp
    rw [all_snoc]
  rw [e0] at h
  have hcas : q < 16 ∨ q = 16 ∨ q = 17 := by omega
  rcases hcas with hi | rfl | rfl
  · have hil : q < p.fds.length := by omega
    rw [show noteQ p.pb p.tx p.fx (Nt.mk q was sb wb) = noteHp p.pb q p.tx sb wb was by unfold noteQ; rw [if_pos hi]] at h
    rw [put_fd hi]
    have h2 := f_has (b := b) (nl := nl ++ [Nt.mk q was sb wb]) hb hil
    refine (back_calls p q sb wb was (St0 c N (fOf b p (nl ++ [Nt.mk q was sb wb])) (gOf p (nl ++ [Nt.mk q was sb wb])) * notesHp p nl) (St0 c (N + 1) (fun k => fOf b p (nl ++ [Nt.mk q was sb wb]) k - dl p.fds[q].has k) (gOf p (nl ++ [Nt.mk q was sb wb])) * notesHp p nl) w S hi h16 (t_unref hl (by omega) _ fun h1 => h2 h1) (h.perm (by ac_rfl))).mono ?_
    rintro e w' ⟨⟨rfl, hS⟩, hR⟩
    refine ⟨⟨_, rfl⟩, ?_, hR⟩
    have h3 := (hS.perm (show _ = noteHp p.pb q p.tx sb wb was * (St0 c (N + 1) (fun k => fOf b p (nl ++ [Nt.mk q was sb wb]) k - dl p.fds[q].has k) (gOf p (nl ++ [Nt.mk q was sb wb])) * (notesHp p nl * pcHp (p.slot q was)) * S) by ac_rfl)).right
    rw [show (fun k => fOf b p (nl ++ [Nt.mk q was sb wb]) k - dl p.fds[q].has k) = fOf b (p.slot q was) nl by
      funext k
      rw [f_snoc, f_slot hil]
      dsimp only
      rw [if_pos hi]
      omega] at h3
    rw [show gOf p (nl ++ [Nt.mk q was sb wb]) = gOf (p.slot q was) nl by
      funext k
      rw [g_snoc]
      dsimp only
      rw [if_neg (fun e => by omega)]
      show gOf p nl k + 0 = gOf p nl k
      omega] at h3
    exact h3
  · rw [put_dir]
    have h2 : 1 ≤ gOf p (nl ++ [Nt.mk 16 was sb wb]) p.dir.has := by
      unfold gOf
      rw [if_pos rfl]
      have := nD0 (nl ++ [Nt.mk 16 was sb wb]) p.dir.has
      omega
    refine (dir_back p sb wb was (St0 c N (fOf b p (nl ++ [Nt.mk 16 was sb wb])) (gOf p (nl ++ [Nt.mk 16 was sb wb])) * notesHp p nl) (St0 c (N + 1) (fOf b p (nl ++ [Nt.mk 16 was sb wb])) (fun k => gOf p (nl ++ [Nt.mk 16 was sb wb]) k - if k = p.dir.has then 1 else 0) * notesHp p nl) w S h16 (t_drop hl (by omega) _ h2) (h.perm (show _ = _ * (noteD p.pb p.fx sb wb was * _) by show _ * (noteD p.pb p.fx sb wb was * _ * _) * _ = _; ac_rfl))).mono ?_
    rintro e w' ⟨⟨rfl, hS⟩, hR⟩
    refine ⟨⟨_, rfl⟩, ?_, hR⟩
    have h3 := (hS.perm (show _ = noteD p.pb p.fx sb wb was * (St0 c (N + 1) (fOf b p (nl ++ [Nt.mk 16 was sb wb])) (fun k => gOf p (nl ++ [Nt.mk 16 was sb wb]) k - if k = p.dir.has then 1 else 0) * (notesHp p nl * pcHp (p.dirSlot was)) * S) by ac_rfl)).right
    rw [show (fun k => gOf p (nl ++ [Nt.mk 16 was sb wb]) k - if k = p.dir.has then 1 else 0) = gOf (p.dirSlot was) nl by
      funext k
      rw [g_snoc, g_dirSlot]
      have e7 : (if (16 : Nat) = 16 ∧ k = was.has then (1 : Int) else 0) = if k = was.has then 1 else 0 := by simp
      show gOf p nl k + (if (16 : Nat) = 16 ∧ k = was.has then (1 : Int) else 0) - (if k = p.dir.has then 1 else 0) = gOf p nl k - (if k = p.dir.has then 1 else 0) + (if k = was.has then 1 else 0)
      rw [e7]
      omega] at h3
    rw [show fOf b p (nl ++ [Nt.mk 16 was sb wb]) = fOf b (p.dirSlot was) nl by
      funext k
      rw [f_snoc]
      dsimp only
      rw [if_neg (by omega)]
      show fOf b p nl k + 0 = fOf b p nl k
      omega] at h3
    exact h3
  · rw [put_mask]
    refine (mask_back p sb wb was (St0 c N (fOf b p (nl ++ [Nt.mk 17 was sb wb])) (gOf p (nl ++ [Nt.mk 17 was sb wb])) * notesHp p nl) (St0 c (N + 1) (fOf b p (nl ++ [Nt.mk 17 was sb wb])) (gOf p (nl ++ [Nt.mk 17 was sb wb])) * notesHp p nl) w S h16 (t_none _) (h.perm (show _ = _ * (noteM p.pb p.fx sb wb was * _) by show _ * (noteM p.pb p.fx sb wb was * _ * _) * _ = _; ac_rfl))).mono ?_
    rintro e w' ⟨⟨rfl, hS⟩, hR⟩
    refine ⟨⟨_, rfl⟩, ?_, hR⟩
    have h3 := (hS.perm (show _ = noteM p.pb p.fx sb wb was * (St0 c (N + 1) (fOf b p (nl ++ [Nt.mk 17 was sb wb])) (gOf p (nl ++ [Nt.mk 17 was sb wb])) * (notesHp p nl * pcHp (p.maskSlot was)) * S) by ac_rfl)).right
    rw [show gOf p (nl ++ [Nt.mk 17 was sb wb]) = gOf (p.maskSlot was) nl by
      funext k
      rw [g_snoc]
      dsimp only
      rw [if_neg (fun e => by omega)]
      show gOf p nl k + 0 = gOf p nl k
      omega] at h3
    rw [show fOf b p (nl ++ [Nt.mk 17 was sb wb]) = fOf b (p.maskSlot was) nl by
      funext k
      rw [f_snoc]
      dsimp only
      rw [if_neg (by omega)]
      show fOf b p nl k + 0 = fOf b p nl k
      omega] at h3
    exact h3
/-- What there is when the notes from the i-th on have been undone. -/
def Mid (c : Pls) (N : Nat) (b : Int → Int) (p : Pc) (nl : List Nt) (i : Nat) : Hp := St0 c (N + (nl.length - i)) (fOf b (resto (nl.drop i) p) (nl.take i)) (gOf (resto (nl.drop i) p) (nl.take i)) * (notesHp p (nl.take i) * pcHp (resto (nl.drop i) p))
theorem notes_same {p p' : Pc} (h1 : p'.pb = p.pb) (h2 : p'.tx = p.tx) (h3 : p'.fx = p.fx) (nl : List Nt) : notesHp p' nl = notesHp p nl := by
  unfold notesHp
  rw [h1, h2, h3]
theorem enters_back : Enters Tryz.prog 76 := enters_of Tryz.func76 (by kernel_rfl) rfl
theorem mid_effects (hl : Link c p) (hN : N + nl.length ≤ 600000) (hb : Base b) (hq : ∀ x ∈ nl, x.q ≤ 17) (m : Nat) : Undo.Effects (Mid c N b p nl) (backs nl) m := by
  intro i hmi hi
  have hi : i < nl.length := by rw [List.length_map] at hi; exact hi
  refine ⟨76, #[pp nl[i].sb, pp nl[i].wb], ?_, enters_back, fun S W hS => ?_⟩
  · rw [List.getD_eq_getElem?_getD, List.getElem?_map, List.getElem?_eq_getElem hi]
    rfl
  · obtain ⟨g1, g2, g3, g4, g5, g6, g7⟩ := resto_same (nl.drop (i + 1)) p
    have et : nl.take (i + 1) = nl.take i ++ [nl[i]] := by rw [List.take_succ_eq_append_getElem hi]
    have ed : nl.drop i = nl[i] :: nl.drop (i + 1) := List.drop_eq_getElem_cons hi
    unfold Mid at hS
    rw [et] at hS
    have h1 := one_back (hl.resto (nl.drop (i + 1))) (N := N + (nl.length - (i + 1))) (by omega) hb nl[i] (hq _ (List.getElem_mem hi)) (nl.take i) W S (by
      rw [notes_same g1 g6 g5]; exact hS)
    refine h1.mono ?_
    rintro e w' ⟨hv, hS', hR⟩
    refine ⟨hv, ?_, hR⟩
    unfold Mid
    rw [ed, show N + (nl.length - i) = N + (nl.length - (i + 1)) + 1 by omega]
    rw [notes_same g1 g6 g5] at hS'
    exact hS'
theorem l_undo (hl : Link c p) (hN : N + nl.length ≤ 600000) (hb : Base b) (hq : ∀ x ∈ nl, x.q ≤ 17) {m : Nat} (hm : m ≤ nl.length) (hms : ms.length ≤ 4) (h : Sat w (PH c N b most p nl (ms ++ [m]) * R)) :
    Calls Tryz.prog 54 #[pp p.lb] w fun e w' => e = .returned (.int .i64 0) ∧ Sat w' (PH c (N + nl.length) b most (resto (nl.drop m) p) (nl.take m) ms * R) ∧ Ran w w' := by
  have hbl : (backs nl).length = nl.length := List.length_map ..
  have e0 : Mid c N b p nl (backs nl).length = St0 c N (fOf b p nl) (gOf p nl) * (notesHp p nl * pcHp p) := by
    unfold Mid
    rw [hbl, List.drop_length, List.take_length, Nat.sub_self]
    rfl
  refine (Undo.undo_calls p.lb most 4 (backs nl) ms m w (Mid c N b p nl) R (by
    rw [e0]
    exact Undo.log_out (h.perm (by unfold PH LG; ac_rfl))) (by rw [hbl]; exact hm) (by rw [hbl]; omega) (by omega) (mid_effects hl hN hb hq m)).mono ?_
  rintro e w' ⟨rfl, hS, hR⟩
  refine ⟨rfl, ?_, hR⟩
  obtain ⟨g1, g2, g3, g4, g5, g6, g7⟩ := resto_same (nl.drop m) p
  have h2 := st_more (M := N + nl.length) (by omega) ((Undo.log_in hS).perm (show _ = St0 c (N + (nl.length - m)) (fOf b (resto (nl.drop m) p) (nl.take m)) (gOf (resto (nl.drop m) p) (nl.take m)) * (Undo.logHp p.lb most 4 ((backs nl).take m) ms * (notesHp p (nl.take m) * pcHp (resto (nl.drop m) p)) * R) by unfold Mid; ac_rfl))
  refine h2.perm ?_
  unfold PH LG
  rw [g4, notes_same g1 g6 g5, show backs (nl.take m) = (backs nl).take m by rw [backs, List.map_take]]
  ac_rfl
theorem l_undo_idle (h : Sat w (PH c N b most p nl [] * R)) :
    Calls Tryz.prog 54 #[pp p.lb] w fun e w' => e = .returned (.int .i64 1) ∧ Sat w' (PH c N b most p nl [] * R) ∧ Ran w w' := by
  refine (Undo.undo_idle p.lb most 4 (backs nl) w (St0 c N (fOf b p nl) (gOf p nl) * (notesHp p nl * pcHp p) * R) (Undo.log_out (h.perm (by unfold PH LG; ac_rfl)))).mono ?_
  rintro e w' ⟨rfl, hS, hR⟩
  exact ⟨rfl, (Undo.log_in hS).perm (by unfold PH LG; ac_rfl), hR⟩
theorem l_mark (hnl : nl.length ≤ 1000000) (hms : ms.length ≤ 4) (h : Sat w (PH c N b most p nl ms * R)) :
    Calls Tryz.prog 60 #[pp p.lb] w fun e w' => (ms.length = 4 ∧ e = .returned (.tuple #[.int .i64 0, .int .i64 42]) ∧ Sat w' (PH c N b most p nl ms * R) ∧ Ran w w') ∨ (ms.length < 4 ∧ e = .returned (.tuple #[.int .i64 ((ms.length : Int) + 1), .int .i64 0]) ∧ Sat w' (PH c N b most p nl (ms ++ [nl.length]) * R) ∧ Ran w w') := by
  have hbl : (backs nl).length = nl.length := List.length_map ..
  have h1 := Undo.log_out (h.perm (show _ = Undo.logHp p.lb most 4 (backs nl) ms * (St0 c N (fOf b p nl) (gOf p nl) * (notesHp p nl * pcHp p) * R) by unfold PH LG; ac_rfl))
  by_cases h4 : ms.length = 4
  · refine (Undo.mark_full p.lb most 4 (backs nl) ms w _ h1 (by omega)).mono ?_
    rintro e w' ⟨rfl, hS, hR⟩
    exact .inl ⟨h4, rfl, (Undo.log_in hS).perm (by unfold PH LG; ac_rfl), hR⟩
  · refine (Undo.mark_calls p.lb most 4 (backs nl) ms w _ h1 (by omega) (by rw [hbl]; omega) (by omega)).mono ?_
    rintro e w' ⟨rfl, hS, hR⟩
    rw [hbl] at hS
    exact .inr ⟨by omega, rfl, (Undo.log_in hS).perm (by unfold PH LG; ac_rfl), hR⟩
set_option maxRecDepth 100000 in
/-- Undo and Mark of a process are its log's. -/
theorem p_undo_of (Q : Ending → World → Prop) (h : Sat w (PH c N b most p nl ms * R)) (HU : Calls Tryz.prog 54 #[pp p.lb] w fun e w' => ∃ er, e = .returned (.int .i64 er) ∧ Q e w') :
    Calls Tryz.prog 18 #[pp p.pb] w Q := by
  obtain ⟨a0, a1, a2⟩ := pc_heads (h.perm (show _ = pcHp p * (St0 c N (fOf b p nl) (gOf p nl) * (LG p most nl ms * notesHp p nl) * R) by unfold PH; ac_rfl))
  have HU := Lib.hid HU
  clear h
  go_enter Tryz.func18, Tryz.ntmps18
  go_wp2_with fail
  refine HU.out.mono ?_
  rintro e w1 ⟨er, rfl, hQ⟩
  have hQ := Lib.hid hQ
  go_wp2_with fail
  exact hQ.out
set_option maxRecDepth 100000 in
theorem p_mark_of (Q : Ending → World → Prop) (h : Sat w (PH c N b most p nl ms * R)) (HU : Calls Tryz.prog 60 #[pp p.lb] w fun e w' => ∃ n er, e = .returned (.tuple #[.int .i64 n, .int .i64 er]) ∧ Q e w') :
    Calls Tryz.prog 24 #[pp p.pb] w Q := by
  obtain ⟨a0, a1, a2⟩ := pc_heads (h.perm (show _ = pcHp p * (St0 c N (fOf b p nl) (gOf p nl) * (LG p most nl ms * notesHp p nl) * R) by unfold PH; ac_rfl))
  have HU := Lib.hid HU
  clear h
  go_enter Tryz.func24, Tryz.ntmps24
  go_wp2_with fail
  refine HU.out.mono ?_
  rintro e w1 ⟨n, er, rfl, hQ⟩
  have hQ := Lib.hid hQ
  go_wp2_with fail
  exact hQ.out
end
end Go.Proofs.YteienbdbhnikbaaGreatDoor.Pr

namespace Go.Proofs.YteienbdbhnikbaaGreatDoor.Pr
open Go.RowKit Go.Maps Go.Proofs.YteienbdbhnikbaaGreatDoor Go.Proofs.YteienbdbhnikbaaGreatDoor.Hp Go.Proofs.YteienbdbhnikbaaGreatDoor.Hd
set_option linter.unusedVariables false
attribute [local go_sem] Oper.semAt_some

/-- What is true of a process's numbers. -/
structure POk (p : Pc) (nl : List Nt) : Prop where
  vals : ∀ q, q ≤ 17 → 0 ≤ (p.sl q).has ∧ (p.sl q).has ≤ 1000000 ∧ 0 ≤ (p.sl q).mark
  nts : ∀ x ∈ nl, x.q ≤ 17 ∧ 0 ≤ x.was.has ∧ x.was.has ≤ 1000000 ∧ 0 ≤ x.was.mark
  len : nl.length ≤ 10000
/-- What a call does to slots, notes and marks. -/
inductive PStep (most : Int) (p : Pc) (nl : List Nt) (ms : List Nat) : Int → Pc → List Nt → List Nat → Prop
  | same (er : Int) : er ≠ 43 → PStep most p nl ms er p nl ms
  | set (q : Nat) (n er : Int) (p' : Pc) (nl' : List Nt) : q ≤ 17 → 0 ≤ n → n ≤ 1000000 → SetR most q n p nl ms er p' nl' → PStep most p nl ms er p' nl' ms
  | mark : ms.length < 4 → PStep most p nl ms 0 p nl (ms ++ [nl.length])
  | undo (m : Nat) (ms0 : List Nat) : ms = ms0 ++ [m] → PStep most p nl ms 0 (resto (nl.drop m) p) (nl.take m) ms0
section
variable {c : Pls} {N : Nat} {b : Int → Int} {most : Int} {p : Pc} {nl : List Nt} {ms : List Nat} {w : World} {R : Hp}
theorem ph_open (h : Sat w (PH c N b most p nl ms * R)) : ∃ s, InvT N s ∧ (∀ k, rf s.L k = fOf b p nl k) ∧ (∀ k, xt s k = gOf p nl k) ∧ Sat w (SgHp c s * (LG p most nl ms * (notesHp p nl * pcHp p) * R)) := by
  obtain ⟨s, h1, h2, h3, -, h5⟩ := st_out (h.perm (show _ = St0 c N (fOf b p nl) (gOf p nl) * (LG p most nl ms * (notesHp p nl * pcHp p) * R) by unfold PH; ac_rfl))
  exact ⟨s, h1, h2, h3, h5⟩
theorem ph_in {P : Sg → Prop} {s : Sg} (h1 : InvT N s) (h2 : ∀ k, rf s.L k = fOf b p nl k) (h3 : ∀ k, xt s k = gOf p nl k) (h4 : P s) (h : Sat w (SgHp c s * (LG p most nl ms * (notesHp p nl * pcHp p) * R))) : Sat w (PHP c N b most p nl ms P * R) :=
  (st_in h1 h2 h3 h4 h).perm (by unfold PHP; ac_rfl)
theorem ph_eff {w' : World} (hE : Eff N c w (LG p most nl ms * (notesHp p nl * pcHp p) * R) (fOf b p nl) (gOf p nl) w') : Sat w' (PH c N b most p nl ms * R) ∧ Ran w w' := by
  obtain ⟨h1, h2⟩ := st_eff hE (fun _ => rfl) (fun _ => rfl)
  exact ⟨h1.perm (by unfold PH; ac_rfl), h2⟩
theorem ph_more {M : Nat} (hm : N ≤ M) (h : Sat w (PH c N b most p nl ms * R)) : Sat w (PH c M b most p nl ms * R) :=
  (st_more hm (h.perm (show _ = St0 c N (fOf b p nl) (gOf p nl) * (LG p most nl ms * (notesHp p nl * pcHp p) * R) by unfold PH; ac_rfl))).perm (by unfold PH; ac_rfl)
theorem ph_pc (h : Sat w (PH c N b most p nl ms * R)) : Sat w (pcHp p * (St0 c N (fOf b p nl) (gOf p nl) * (LG p most nl ms * notesHp p nl) * R)) := h.perm (by unfold PH; ac_rfl)
theorem php (h : Sat w (PH c N b most p nl ms * R)) : Sat w (PHP c N b most p nl ms (fun _ => True) * R) := h
theorem ph_id (hN : N ≤ 700000) (h : Sat w (PH c N b most p nl ms * R)) {n : Int} (hn : 1 ≤ fOf b p nl n) : 1 ≤ n ∧ n ≤ 1000000 := by
  obtain ⟨s, hI, hf, -, -⟩ := ph_open h
  rw [← hf] at hn
  obtain ⟨y, hy⟩ := rf_pos hn
  have := hI.ids n y hy
  omega
theorem l_Stat (hN : N ≤ 700000) {n : Int} (hn : I64 n) (h : Sat w (PH c N b most p nl ms * R)) :
    Calls Tryz.prog 21 #[pp c.tb, .int .i64 n] w fun e w' => (∃ k a d m er, e = .returned (.tuple #[inV k (fOf b p nl n) a d m, .int .i64 er]) ∧ (er = 0 ↔ 1 ≤ fOf b p nl n)) ∧ Sat w' (PH c N b most p nl ms * R) ∧ Ran w w' := by
  obtain ⟨s, hI, hf, hg, hS⟩ := ph_open h
  refine (m_Stat (by omega) hI hn hS).mono ?_
  rintro e w' ⟨h1, h2, h3⟩
  rw [hf] at h1
  exact ⟨h1, ph_in hI hf hg trivial h2, h3⟩
theorem l_Read (hN : N ≤ 700000) {id n : Int} (hid : I64 id) (hn : I64 n) (h : Sat w (PH c N b most p nl ms * R)) :
    Calls Tryz.prog 70 #[pp c.tb, .int .i64 id, .int .i64 n] w fun e w' => (∃ (t : ByteArray) (er : Int), e = .returned (.tuple #[.string t, .int .i64 er]) ∧ er ≠ 43) ∧ Sat w' (PH c (N + 1) b most p nl ms * R) ∧ Ran w w' := by
  obtain ⟨s, hI, hf, hg, hS⟩ := ph_open h
  refine (m_Read (by omega) hI hid hn hS).mono ?_
  rintro e w' ⟨h1, h2⟩
  rw [show rf s.L = fOf b p nl from funext hf, show xt s = gOf p nl from funext hg] at h2
  exact ⟨h1, ph_eff h2⟩
theorem l_Write (hN : N ≤ 700000) {id : Int} {d : ByteArray} (hid : I64 id) (hd : d.size ≤ 100) (h : Sat w (PH c N b most p nl ms * R)) :
    Calls Tryz.prog 63 #[pp c.tb, .int .i64 id, .string d] w fun e w' => (∃ er : Int, e = .returned (.int .i64 er) ∧ er ≠ 43) ∧ Sat w' (PH c (N + 1) b most p nl ms * R) ∧ Ran w w' := by
  obtain ⟨s, hI, hf, hg, hS⟩ := ph_open h
  refine (m_Write (by omega) hI hid hd hS).mono ?_
  rintro e w' ⟨h1, h2⟩
  rw [show rf s.L = fOf b p nl from funext hf, show xt s = gOf p nl from funext hg] at h2
  exact ⟨h1, ph_eff h2⟩
theorem has_i64 {x : Int} (h : 0 ≤ x ∧ x ≤ 1000000) : I64 x := by unfold I64; omega
set_option maxRecDepth 100000 in
set_option maxHeartbeats 4000000 in
theorem p_Read (hl : Link c p) (ho : POk p nl) (hN : N ≤ 700000) (fd n : Int) (hn : I64 n) (h : Sat w (PH c N b most p nl ms * R)) :
    Calls Tryz.prog 40 #[pp p.pb, .int .i64 fd, .int .i64 n] w fun e w' => (∃ (t : ByteArray) (er : Int), e = .returned (.tuple #[.string t, .int .i64 er]) ∧ er ≠ 43) ∧ Sat w' (PH c (N + 1) b most p nl ms * R) ∧ Ran w w' := by
  have h16 := hl.len
  by_cases hr : 0 ≤ fd ∧ fd < 16
  · obtain ⟨i, rfl⟩ : ∃ i : Nat, fd = i := ⟨fd.toNat, by omega⟩
    have hi : i < 16 := by omega
    have hil : i < p.fds.length := by omega
    have HO := open_calls p i hi h16 w _ (ph_pc h)
    have hv := ho.vals i (by omega)
    rw [sl_fd hi hil] at hv
    have hT := l_Read hN (has_i64 ⟨hv.1, hv.2.1⟩) hn h.drew
    have hcell := fun (W : World) (S : Hp) (hW : Sat W (pcHp p * S)) => And.intro (pc_heads hW).2.1 (pc_fd hW i hil).1
    have kd := hcell _ _ (ph_pc h.drew)
    rw [← hl.tb] at hT
    obtain ⟨x, hx⟩ : ∃ x, x = p.fds[i].has := ⟨_, rfl⟩
    rw [← hx] at HO hT kd
    have hcell : ∀ (W : World) (S : Hp), Sat W (pcHp p * S) → W.cell? ⟨p.pb, 1, none⟩ = some (pp p.tb) ∧ W.cell? ⟨p.pb, 3 + i * 4, none⟩ = some (.int .i64 x) := fun W S hW => by rw [hx]; exact hcell W S hW
    obtain ⟨k1, k2⟩ := kd
    clear hx hv
    by_cases hz : x = 0
    · subst hz
      rw [if_pos rfl] at HO
      have HO := Lib.hid HO
      have H0 := Lib.hid (ph_more (Nat.le_succ N) h)
      clear h hT ho
      go_enter Tryz.func40, Tryz.ntmps40
      go_wp2_with fail
      refine HO.out.mono ?_
      rintro e w1 ⟨rfl, rfl⟩
      go_wp2_with fail
      go_ret2
      exact ⟨⟨_, _, rfl, by decide⟩, H0.out, Below.refl 0 _⟩
    · rw [if_neg hz] at HO
      have HO := Lib.hid HO
      have HT := Lib.hid hT
      have Hc := Lib.hid hcell
      clear h hT ho hcell
      go_enter Tryz.func40, Tryz.ntmps40
      go_wp2_with fail
      refine HO.out.mono ?_
      rintro e w1 ⟨rfl, rfl⟩
      go_upto_region 4 with fail
      refine region_plan (S := (fun w' => w'.cell? ⟨p.pb, 1, none⟩ = some (pp p.tb) ∧ w'.cell? ⟨p.pb, 3 + i * 4, none⟩ = some (.int .i64 x))) [(0, true), (1, true), (2, true), (3, true), (4, true), (5, true), (6, true), (7, true), (8, true), (9, false), (10, true), (11, true), (12, true), (13, true)] (by kernel_rfl) (by kernel_rfl) (by kernel_rfl) ?_ ?_
      · ((try dsimp only); (first | done | (first | exact ⟨k1, k2⟩ | exact K5)))
      simp only [planOps, List.map_cons, List.map_nil, List.getElem?_toArray, List.getElem?_cons_zero, List.getElem?_cons_succ]
      repeat (first
        | ((refine plan_yes (v := ?_) (by rfl) ?_ ?_); rotate_left; (focus (intro w hSw; (try dsimp only at hSw); go_simp; try (with_reducible rfl))); (try simp only [Act.put, List.setIfInBounds_toArray, List.set_cons_zero, List.set_cons_succ]))
        | ((refine plan_no (by rfl) ?_); (try simp only [Act.put, List.setIfInBounds_toArray, List.set_cons_zero, List.set_cons_succ]))
        | ((refine plan_step (fun K hK => ?_)); (first | (go_simp; ((go_at_call 70; refine HT.out.mono ?_; rintro e w5 ⟨⟨t, er, rfl, her⟩, S5, R5⟩; have K5 := Hc.out _ _ (ph_pc S5))); (try go_wp2_with fail)) | go_simp); (refine hK.out _ _ ?_ (fun hHeld => ?_)); (focus ((try dsimp only); (first | done | (first | exact ⟨k1, k2⟩ | exact K5)))); clear hK K; (try simp only [Act.put, List.setIfInBounds_toArray, List.set_cons_zero, List.set_cons_succ])))
      refine plan_done ?_
      have S5 := Lib.hid S5
      have R5 := Lib.hid (Below.trans (Ran.drewN (Below.refl 0 w) 1) R5)
      go_wp2_with fail
      go_ret2
      exact ⟨⟨_, _, rfl, her⟩, S5.out, R5.out⟩
  · have HO := Lib.hid (open_bad p.pb fd (by omega) w)
    have H0 := Lib.hid (ph_more (Nat.le_succ N) h)
    clear h ho hr
    go_enter Tryz.func40, Tryz.ntmps40
    go_wp2_with fail
    refine HO.out.mono ?_
    rintro e w1 ⟨rfl, rfl⟩
    go_wp2_with fail
    go_ret2
    exact ⟨⟨_, _, rfl, by decide⟩, H0.out, Below.refl 0 _⟩
set_option maxRecDepth 100000 in
set_option maxHeartbeats 4000000 in
theorem p_Write (hl : Link c p) (ho : POk p nl) (hN : N ≤ 700000) (fd : Int) (d : ByteArray) (hd : d.size ≤ 100) (h : Sat w (PH c N b most p nl ms * R)) :
    Calls Tryz.prog 27 #[pp p.pb, .int .i64 fd, .string d] w fun e w' => (∃ er : Int, e = .returned (.int .i64 er) ∧ er ≠ 43) ∧ Sat w' (PH c (N + 1) b most p nl ms * R) ∧ Ran w w' := by
  have h16 := hl.len
  by_cases hr : 0 ≤ fd ∧ fd < 16
  · obtain ⟨i, rfl⟩ : ∃ i : Nat, fd = i := ⟨fd.toNat, by omega⟩
    have hi : i < 16 := by omega
    have hil : i < p.fds.length := by omega
    have HO := open_calls p i hi h16 w _ (ph_pc h)
    have hv := ho.vals i (by omega)
    rw [sl_fd hi hil] at hv
    have hT := l_Write (d := d) hN (has_i64 ⟨hv.1, hv.2.1⟩) hd h.drew
    have hcell := fun (W : World) (S : Hp) (hW : Sat W (pcHp p * S)) => And.intro (pc_heads hW).2.1 (pc_fd hW i hil).1
    have kd := hcell _ _ (ph_pc h.drew)
    rw [← hl.tb] at hT
    obtain ⟨x, hx⟩ : ∃ x, x = p.fds[i].has := ⟨_, rfl⟩
    rw [← hx] at HO hT kd
    have hcell : ∀ (W : World) (S : Hp), Sat W (pcHp p * S) → W.cell? ⟨p.pb, 1, none⟩ = some (pp p.tb) ∧ W.cell? ⟨p.pb, 3 + i * 4, none⟩ = some (.int .i64 x) := fun W S hW => by rw [hx]; exact hcell W S hW
    obtain ⟨k1, k2⟩ := kd
    clear hx hv
    by_cases hz : x = 0
    · subst hz
      rw [if_pos rfl] at HO
      have HO := Lib.hid HO
      have H0 := Lib.hid (ph_more (Nat.le_succ N) h)
      clear h hT ho
      go_enter Tryz.func27, Tryz.ntmps27
      go_wp2_with fail
      refine HO.out.mono ?_
      rintro e w1 ⟨rfl, rfl⟩
      go_wp2_with fail
      go_ret
      exact ⟨⟨_, rfl, by decide⟩, H0.out, Below.refl 0 _⟩
    · rw [if_neg hz] at HO
      have HO := Lib.hid HO
      have HT := Lib.hid hT
      have Hc := Lib.hid hcell
      clear h hT ho hcell
      go_enter Tryz.func27, Tryz.ntmps27
      go_wp2_with fail
      refine HO.out.mono ?_
      rintro e w1 ⟨rfl, rfl⟩
      go_upto_region 4 with fail
      refine region_plan (S := (fun w' => w'.cell? ⟨p.pb, 1, none⟩ = some (pp p.tb) ∧ w'.cell? ⟨p.pb, 3 + i * 4, none⟩ = some (.int .i64 x))) [(0, true), (1, true), (2, true), (3, true), (4, true), (5, true), (6, true), (7, true), (8, true), (9, false), (10, true)] (by kernel_rfl) (by kernel_rfl) (by kernel_rfl) ?_ ?_
      · ((try dsimp only); (first | done | (first | exact ⟨k1, k2⟩ | exact K5)))
      simp only [planOps, List.map_cons, List.map_nil, List.getElem?_toArray, List.getElem?_cons_zero, List.getElem?_cons_succ]
      repeat (first
        | ((refine plan_yes (v := ?_) (by rfl) ?_ ?_); rotate_left; (focus (intro w hSw; (try dsimp only at hSw); go_simp; try (with_reducible rfl))); (try simp only [Act.put, List.setIfInBounds_toArray, List.set_cons_zero, List.set_cons_succ]))
        | ((refine plan_no (by rfl) ?_); (try simp only [Act.put, List.setIfInBounds_toArray, List.set_cons_zero, List.set_cons_succ]))
        | ((refine plan_step (fun K hK => ?_)); (first | (go_simp; ((go_at_call 63; refine HT.out.mono ?_; rintro e w5 ⟨⟨er, rfl, her⟩, S5, R5⟩; have K5 := Hc.out _ _ (ph_pc S5))); (try go_wp2_with fail)) | go_simp); (refine hK.out _ _ ?_ (fun hHeld => ?_)); (focus ((try dsimp only); (first | done | (first | exact ⟨k1, k2⟩ | exact K5)))); clear hK K; (try simp only [Act.put, List.setIfInBounds_toArray, List.set_cons_zero, List.set_cons_succ])))
      refine plan_done ?_
      have S5 := Lib.hid S5
      have R5 := Lib.hid (Below.trans (Ran.drewN (Below.refl 0 w) 1) R5)
      go_wp2_with fail
      go_ret
      exact ⟨⟨_, rfl, her⟩, S5.out, R5.out⟩
  · have HO := Lib.hid (open_bad p.pb fd (by omega) w)
    have H0 := Lib.hid (ph_more (Nat.le_succ N) h)
    clear h ho hr
    go_enter Tryz.func27, Tryz.ntmps27
    go_wp2_with fail
    refine HO.out.mono ?_
    rintro e w1 ⟨rfl, rfl⟩
    go_wp2_with fail
    go_ret
    exact ⟨⟨_, rfl, by decide⟩, H0.out, Below.refl 0 _⟩
end
end Go.Proofs.YteienbdbhnikbaaGreatDoor.Pr

