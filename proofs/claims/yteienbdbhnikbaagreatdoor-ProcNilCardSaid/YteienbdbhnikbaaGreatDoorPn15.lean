/- HandlesPlays, part 15 of 18: the texts PrW PrX PrY, joined by a program. -/
import Derived.Test.YteienbdbhnikbaaGreatDoorPn14
import Derived.Deep.MidRow
namespace Go.Proofs.YteienbdbhnikbaaGreatDoor.Pr
open Go.RowKit Go.Maps Go.Proofs.YteienbdbhnikbaaGreatDoor Go.Proofs.YteienbdbhnikbaaGreatDoor.Hp Go.Proofs.YteienbdbhnikbaaGreatDoor.Hd
set_option linter.unusedVariables false
attribute [local go_sem] Oper.semAt_some

section
variable {c : Pls} {N : Nat} {b : Int → Int} {most : Int} {p : Pc} {nl : List Nt} {ms : List Nat} {w : World} {R L : Hp} {f g : Int → Int} {P Q : Sg → Prop}
theorem x_Ref (hN : N ≤ 900000) {n : Int} (hn : 1 ≤ f n) (hPQ : ∀ s y, P s → findA s.L n = some y → Q { s with L := updA s.L n { y with refs := y.refs + 1 } }) (h : Sat w (St c N f g P * R)) :
    Calls Tryz.prog 50 #[pp c.tb, .int .i64 n] w fun e w' => e = .returned (.int .i64 0) ∧ Sat w' (St c (N + 1) (fun k => f k + if k = n then 1 else 0) g Q * R) ∧ Ran w w' := by
  obtain ⟨s, hI, hf, hg, hP, h⟩ := st_out h
  rw [← hf] at hn
  obtain ⟨y, hy⟩ := rf_pos hn
  have hr := hI.refs _ y hy
  refine (Ref_calls c.tb c.fb c.bp c.hm s.n s.L n y (hI.id64 hN hy) hy (by omega) (by omega) w _ (sg_tab h)).mono ?_
  rintro e w' ⟨⟨rfl, S⟩, hR⟩
  obtain ⟨hI', hx⟩ := hI.upd hy (y' := { y with refs := y.refs + 1 }) (by dsimp only; omega) (fun _ => rfl) rfl s.F s.p s.tot (hI.th n y hy) (hI.tree.more (Nat.le_succ _)) (fun _ => rfl) (kp_refl _) rfl rfl ⟨hI.pipe.1, hI.pipe.2.1, by have := hI.pipe.2.2; omega⟩
  refine ⟨rfl, st_in hI' (fun k => ?_) (fun k => (hx k).trans (hg k)) (hPQ s y hP hy) (sg_shut ?_), hR⟩
  · show rf (updA s.L n { y with refs := y.refs + 1 }) k = f k + if k = n then 1 else 0
    rw [rf_upd hy, ← hf]
    by_cases e : k = n
    · rw [if_pos e, if_pos e, e, rf_some hy]
    · rw [if_neg e, if_neg e]; omega
  · rw [snks_same (y' := { y with refs := y.refs + 1 }) hy rfl]
    exact S.perm (by ac_rfl)
theorem x_Unref (hN : N ≤ 900000) {n : Int} (hn : 2 ≤ f n) (hPQ : ∀ s y, P s → findA s.L n = some y → Q { s with L := updA s.L n { y with refs := y.refs - 1 } }) (h : Sat w (St c N f g P * R)) :
    Calls Tryz.prog 52 #[pp c.tb, .int .i64 n] w fun e w' => e = .returned (.int .i64 0) ∧ Sat w' (St c (N + 1) (fun k => f k - if k = n then 1 else 0) g Q * R) ∧ Ran w w' := by
  obtain ⟨s, hI, hf, hg, hP, h⟩ := st_out h
  rw [← hf] at hn
  obtain ⟨y, hy⟩ := rf_pos (L := s.L) (k := n) (by omega)
  rw [rf_some hy] at hn
  have hr := hI.refs _ y hy
  refine (Unref_more c.tb c.fb c.bp c.hm s.n s.L n y (hI.id64 hN hy) hy hn (by omega) w _ (sg_tab h)).mono ?_
  rintro e w' ⟨⟨rfl, S⟩, hR⟩
  obtain ⟨hI', hx⟩ := hI.upd hy (y' := { y with refs := y.refs - 1 }) (by dsimp only; omega) (fun _ => rfl) rfl s.F s.p s.tot (hI.th n y hy) (hI.tree.more (Nat.le_succ _)) (fun _ => rfl) (kp_refl _) rfl rfl ⟨hI.pipe.1, hI.pipe.2.1, by have := hI.pipe.2.2; omega⟩
  refine ⟨rfl, st_in hI' (fun k => ?_) (fun k => (hx k).trans (hg k)) (hPQ s y hP hy) (sg_shut ?_), hR⟩
  · show rf (updA s.L n { y with refs := y.refs - 1 }) k = f k - if k = n then 1 else 0
    rw [rf_upd hy, ← hf]
    by_cases e : k = n
    · rw [if_pos e, if_pos e, e, rf_some hy]
    · rw [if_neg e, if_neg e]; omega
  · rw [snks_same (y' := { y with refs := y.refs - 1 }) hy rfl]
    exact S.perm (by ac_rfl)
/-- A file's last ref. -/
theorem x_gone (hN : N ≤ 900000) {n : Int} (hn : f n = 1) (h5 : 5 ≤ n) (hPQ : ∀ s y k a m, InvT N s → P s → findA s.L n = some y → y.t = .file k a m → Q { s with F := dropG s.F k, L := delA s.L n }) (h : Sat w (St c N f g P * R)) :
    Calls Tryz.prog 52 #[pp c.tb, .int .i64 n] w fun e w' => e = .returned (.int .i64 0) ∧ Sat w' (St c (N + 1) (fun k => f k - if k = n then 1 else 0) g Q * R) ∧ Ran w w' := by
  obtain ⟨s, hI, hf, hg, hP, h⟩ := st_out h
  rw [← hf] at hn
  obtain ⟨y, hy⟩ := rf_pos (L := s.L) (k := n) (by omega)
  rw [rf_some hy] at hn
  have hF := (hI.cls n y hy).1 h5
  cases hyt : y.t with
  | file k a m =>
    obtain ⟨x, hx, hk2, hh⟩ := hI.node hy hyt
    refine (Unref_file_oneN c.tb c.fb c.mb c.bp c.hm s.n s.F s.L n k y a m (hI.id64 hN hy) hy hyt hI.nd hn (hI.tree.in_i64 hx) (hI.tree.ok (by omega)) hI.tree.nd ⟨by rw [hI.tree.used]; omega, by have := hI.tree.room; omega⟩ w _ (sg_tab h)).mono ?_
    rintro e w' ⟨⟨rfl, S⟩, hR⟩
    obtain ⟨hI', hx'⟩ := hI.gone hy hyt (dropG s.F k) (hI.tree.drop k) (kp_drop hI.tree.nd k) (hf_drop hI.tree.nd hx (by omega))
    refine ⟨rfl, st_in hI' (fun j => ?_) (fun j => (hx' j).trans (hg j)) (hPQ s y k a m hI hP hy hyt) (sg_shut ?_), hR⟩
    · show rf (delA s.L n) j = f j - if j = n then 1 else 0
      rw [rf_del hI.nd, ← hf]
      by_cases e : j = n
      · rw [if_pos e, if_pos e, e, rf_some hy]; omega
      · rw [if_neg e, if_neg e]; omega
    · rw [snks_del hy (by rw [hyt]; rfl)]
      exact S.perm (by ac_rfl)
  | text t a => rw [hyt] at hF; cases hF
  | sink sp q cap l most => rw [hyt] at hF; cases hF
  | reader bb eb => rw [hyt] at hF; cases hF
  | writer bb eb => rw [hyt] at hF; cases hF
theorem dl_if {n : Int} (h : 1 ≤ n) (k : Int) : dl n k = if k = n then 1 else 0 := by
  unfold dl
  by_cases e : k = n
  · rw [if_pos e, if_pos ⟨e, h⟩]
  · rw [if_neg e, if_neg (fun h => e h.1)]
theorem dl_0 (k : Int) : dl 0 k = 0 := by unfold dl; rw [if_neg (fun e => absurd e.2 (by decide))]
theorem t_refP (hl : Link c p) (hN : N ≤ 800000) {n : Int} (h1 : 1 ≤ n) (hn : 1 ≤ f n) (hPQ : ∀ s y, P s → findA s.L n = some y → Q { s with L := updA s.L n { y with refs := y.refs + 1 } }) (W : World) (S : Hp) (h : Sat W (St c N f g P * L * (pcHp p * S))) :
    Calls Tryz.prog 49 #[.int .i64 n, pp p.tx] W fun e w' => e = .returned (.tuple #[]) ∧ (Sat w' (St c (N + 1) (fun k => f k + dl n k) g Q * L * (pcHp p * S)) ∧ Ran W w') := by
  refine fref_calls p.tx p.tb n W _ (pc_boxes (h.perm (show _ = pcHp p * (St c N f g P * (L * S)) by ac_rfl))).2 (fun h0 => absurd h1 (by omega)) fun h0 => ?_
  rw [hl.tb]
  refine (x_Ref (by omega) hn hPQ (h.perm (show _ = St c N f g P * (L * (pcHp p * S)) by ac_rfl))).mono ?_
  rintro e w' ⟨rfl, hS, hR⟩
  refine ⟨_, rfl, hS.perm ?_, hR⟩
  rw [show (fun k => f k + if k = n then 1 else 0) = (fun k => f k + dl n k) from funext fun k => by rw [dl_if h1]]
  ac_rfl
/-- Nothing taken, nothing dropped. -/
theorem t_ref0 (W : World) (S : Hp) (h : Sat W (St c N f g P * L * (pcHp p * S))) :
    Calls Tryz.prog 49 #[.int .i64 0, pp p.tx] W fun e w' => e = .returned (.tuple #[]) ∧ (Sat w' (St c N f g P * L * (pcHp p * S)) ∧ Ran W w') :=
  fref_calls p.tx p.tb 0 W _ (pc_boxes (h.perm (show _ = pcHp p * (St c N f g P * (L * S)) by ac_rfl))).2 (fun h0 => ⟨h, Below.refl 0 W⟩) fun h0 => absurd h0 (by decide)
theorem t_unref0 (W : World) (S : Hp) (h : Sat W (St c N f g P * L * (pcHp p * S))) :
    Calls Tryz.prog 51 #[.int .i64 0, pp p.tx] W fun e w' => e = .returned (.tuple #[]) ∧ (Sat w' (St c N f g P * L * (pcHp p * S)) ∧ Ran W w') :=
  funref_calls p.tx p.tb 0 W _ (pc_boxes (h.perm (show _ = pcHp p * (St c N f g P * (L * S)) by ac_rfl))).2 (fun h0 => ⟨h, Below.refl 0 W⟩) fun h0 => absurd h0 (by decide)
theorem t_goneP (hl : Link c p) (hN : N ≤ 800000) {n : Int} (hn : f n = 1) (h5 : 5 ≤ n) (hPQ : ∀ s y k a m, InvT N s → P s → findA s.L n = some y → y.t = .file k a m → Q { s with F := dropG s.F k, L := delA s.L n }) (W : World) (S : Hp) (h : Sat W (St c N f g P * L * (pcHp p * S))) :
    Calls Tryz.prog 51 #[.int .i64 n, pp p.tx] W fun e w' => e = .returned (.tuple #[]) ∧ (Sat w' (St c (N + 1) (fun k => f k - dl n k) g Q * L * (pcHp p * S)) ∧ Ran W w') := by
  refine funref_calls p.tx p.tb n W _ (pc_boxes (h.perm (show _ = pcHp p * (St c N f g P * (L * S)) by ac_rfl))).2 (fun h0 => absurd h5 (by omega)) fun h0 => ?_
  rw [hl.tb]
  refine (x_gone (by omega) hn h5 hPQ (h.perm (show _ = St c N f g P * (L * (pcHp p * S)) by ac_rfl))).mono ?_
  rintro e w' ⟨rfl, hS, hR⟩
  refine ⟨_, rfl, hS.perm ?_, hR⟩
  rw [show (fun k => f k - if k = n then 1 else 0) = (fun k => f k - dl n k) from funext fun k => by rw [dl_if (by omega)]]
  ac_rfl
/-- A free slot taken at once. -/
theorem fd_nowP (hl : Link c p) (hN : N ≤ 700000) {i : Nat} (hi : i < 16) {n : Int} (h1 : 1 ≤ n) (hn : 1 ≤ fOf b p nl n) {mk : Int} (hs : p.sl i = ⟨0, mk⟩) (hm : (ms.length : Int) ≤ mk) (hPQ : ∀ s y, P s → findA s.L n = some y → Q { s with L := updA s.L n { y with refs := y.refs + 1 } }) (h : Sat w (PHP c N b most p nl ms P * R)) :
    Calls Tryz.prog 56 #[pp p.pb, slP p.pb i, .int .i64 n] w fun e w' => e = .returned (.int .i64 0) ∧ Sat w' (PHP c (N + 1) b most (p.put i ⟨n, mk⟩) nl ms Q * R) ∧ Ran w w' := by
  have h16 := hl.len
  have hil : i < p.fds.length := by omega
  rw [sl_fd hi hil] at hs
  have hx : p.fds[i].has = 0 := by rw [hs]
  have hm' : (ms.length : Int) ≤ p.fds[i].mark := by rw [hs]; exact hm
  have h2 := h.perm (show _ = St c N (fOf b p nl) (gOf p nl) P * LG p most nl ms * (pcHp p * (notesHp p nl * R)) by unfold PHP; ac_rfl)
  have HD : ∀ W S, Sat W (St c (N + 1) (fun k => fOf b p nl k + dl n k) (gOf p nl) Q * LG p most nl ms * (pcHp p * S)) → Calls Tryz.prog 51 #[.int .i64 p.fds[i].has, pp p.tx] W fun e w' => e = .returned (.tuple #[]) ∧ (Sat w' (St c (N + 1) (fun k => fOf b p nl k + dl n k) (gOf p nl) Q * LG p most nl ms * (pcHp p * S)) ∧ Ran W w') := by
    rw [hx]; exact t_unref0
  refine (set_now p i n (ms.length : Int) (St c N (fOf b p nl) (gOf p nl) P * LG p most nl ms) (St c (N + 1) (fun k => fOf b p nl k + dl n k) (gOf p nl) Q * LG p most nl ms) (St c (N + 1) (fun k => fOf b p nl k + dl n k) (gOf p nl) Q * LG p most nl ms) w (notesHp p nl * R) hi h16 hm' t_marks (t_refP hl (by omega) h1 hn hPQ) HD h2).mono ?_
  rintro e w' ⟨⟨rfl, S⟩, hR⟩
  refine ⟨rfl, ?_, hR⟩
  rw [put_fd hi]
  have e1 : p.has i n = p.slot i ⟨n, mk⟩ := by rw [slot_has p i n hil, hs]
  rw [e1] at S
  refine S.perm ?_
  unfold PHP
  rw [show (fun k => fOf b p nl k + dl n k) = fOf b (p.slot i ⟨n, mk⟩) nl by
    funext k
    rw [f_slot hil, hx, dl_0]
    dsimp only
    omega]
  show St c (N + 1) (fOf b (p.slot i ⟨n, mk⟩) nl) (gOf p nl) Q * LG p most nl ms * (pcHp (p.slot i ⟨n, mk⟩) * (notesHp p nl * R)) = St c (N + 1) (fOf b (p.slot i ⟨n, mk⟩) nl) (gOf p nl) Q * (LG p most nl ms * (notesHp p nl * pcHp (p.slot i ⟨n, mk⟩))) * R
  ac_rfl
/-- A slot closed behind a mark: noted. -/
theorem fd_closeP (hl : Link c p) (hN : N ≤ 700000) {i : Nat} (hi : i < 16) (hm4 : ms.length ≤ 4) (hnl : (nl.length : Int) < most) (hm1 : most ≤ 1000) (hne : ms ≠ []) (hm : (p.sl i).mark < (ms.length : Int)) (h : Sat w (PHP c N b most p nl ms P * R)) :
    Calls Tryz.prog 56 #[pp p.pb, slP p.pb i, .int .i64 0] w fun e w' => e = .returned (.int .i64 0) ∧ (∃ sb wb, Sat w' (PHP c N b most (p.put i ⟨0, (ms.length : Int)⟩) (nl ++ [Nt.mk i (p.sl i) sb wb]) ms P * R)) ∧ Ran w w' := by
  have h16 := hl.len
  have hil : i < p.fds.length := by omega
  have hsl := sl_fd hi hil
  rw [hsl] at hm ⊢
  have h2 := h.perm (show _ = St c N (fOf b p nl) (gOf p nl) P * LG p most nl ms * (pcHp p * (notesHp p nl * R)) by unfold PHP; ac_rfl)
  have HTN := fun (sb wb : Nat) => t_note (c := c) (N := N) (f := fOf b p nl) (g := gOf p nl) (P := P) (p := p) (most := most) (by omega) hm4 hne hnl i p.fds[i] sb wb
  have HTT := fun (sb wb : Nat) => t_ref0 (c := c) (N := N) (f := fOf b p nl) (g := gOf p nl) (P := P) (p := p) (L := LG p most (nl ++ [Nt.mk i p.fds[i] sb wb]) ms)
  refine (set_noted p i 0 (ms.length : Int) (St c N (fOf b p nl) (gOf p nl) P * LG p most nl ms) (fun sb wb => St c N (fOf b p nl) (gOf p nl) P * LG p most (nl ++ [Nt.mk i p.fds[i] sb wb]) ms) (fun sb wb => St c N (fOf b p nl) (gOf p nl) P * LG p most (nl ++ [Nt.mk i p.fds[i] sb wb]) ms) w (notesHp p nl * R) hi h16 hm t_marks HTN HTT h2).mono ?_
  rintro e w' ⟨⟨rfl, sb, wb, S⟩, hR⟩
  refine ⟨rfl, ⟨sb, wb, ?_⟩, hR⟩
  rw [put_fd hi]
  refine S.perm ?_
  unfold PHP
  rw [show fOf b (p.slot i ⟨0, (ms.length : Int)⟩) (nl ++ [Nt.mk i p.fds[i] sb wb]) = fOf b p nl by
    funext k
    rw [f_snoc, f_slot hil]
    dsimp only
    rw [if_pos hi, dl_0]
    omega]
  rw [show gOf (p.slot i ⟨0, (ms.length : Int)⟩) (nl ++ [Nt.mk i p.fds[i] sb wb]) = gOf p nl by
    funext k
    rw [g_snoc]
    dsimp only
    rw [if_neg (fun e => by omega)]
    show gOf p nl k + 0 = gOf p nl k
    omega]
  have e9 : notesHp (p.slot i ⟨0, (ms.length : Int)⟩) (nl ++ [Nt.mk i p.fds[i] sb wb]) = noteHp p.pb i p.tx sb wb p.fds[i] * notesHp p nl := by
    unfold notesHp
    rw [all_snoc]
    show noteQ p.pb p.tx p.fx (Nt.mk i p.fds[i] sb wb) * _ = _
    unfold noteQ
    rw [if_pos hi]
    rfl
  rw [e9]
  show _ * (noteHp p.pb i p.tx sb wb p.fds[i] * (pcHp (p.slot i ⟨0, (ms.length : Int)⟩) * (notesHp p nl * R))) = St c N _ _ P * (LG p most _ ms * _) * R
  ac_rfl
/-- One note undone, the last ref of what the slot has. -/
theorem undoP (hl : Link c p) (hN : N ≤ 600000) {i : Nat} (hi : i < 16) {was : Sl} {sb wb : Nat} (h5 : 5 ≤ (p.sl i).has) (hn : fOf b p [Nt.mk i was sb wb] (p.sl i).has = 1) (hPQ : ∀ s y k a m, InvT N s → P s → findA s.L (p.sl i).has = some y → y.t = .file k a m → Q { s with F := dropG s.F k, L := delA s.L (p.sl i).has }) (h : Sat w (PHP c N b most p [Nt.mk i was sb wb] [0] P * R)) :
    Calls Tryz.prog 54 #[pp p.lb] w fun e w' => e = .returned (.int .i64 0) ∧ Sat w' (PHP c (N + 1) b most (p.put i was) [] [] Q * R) ∧ Ran w w' := by
  have h16 := hl.len
  have hil : i < p.fds.length := by omega
  have hsl := sl_fd hi hil
  rw [hsl] at h5 hn hPQ
  obtain ⟨I, hI⟩ : ∃ I : Nat → Hp, I = fun j => if j = 0 then St c (N + 1) (fOf b (p.put i was) []) (gOf (p.put i was) []) Q * pcHp (p.put i was) else St c N (fOf b p [Nt.mk i was sb wb]) (gOf p [Nt.mk i was sb wb]) P * (noteHp p.pb i p.tx sb wb was * pcHp p) := ⟨_, rfl⟩
  have hI0 : I 0 = St c (N + 1) (fOf b (p.put i was) []) (gOf (p.put i was) []) Q * pcHp (p.put i was) := by rw [hI]; exact if_pos rfl
  have hI1 : I 1 = St c N (fOf b p [Nt.mk i was sb wb]) (gOf p [Nt.mk i was sb wb]) P * (noteHp p.pb i p.tx sb wb was * pcHp p) := by rw [hI]; exact if_neg (by decide)
  have e9 : notesHp p [Nt.mk i was sb wb] = noteHp p.pb i p.tx sb wb was := by
    unfold notesHp
    show noteQ p.pb p.tx p.fx (Nt.mk i was sb wb) * emp = _
    rw [sep_emp]
    unfold noteQ
    rw [if_pos hi]
  have hbk : backs [Nt.mk i was sb wb] = [.func (.func 76) #[] #[pp sb, pp wb]] := rfl
  refine (Undo.undo_calls p.lb most 4 (backs [Nt.mk i was sb wb]) [] 0 w I R (by
    show Undo.LogAt w p.lb most 4 (backs [Nt.mk i was sb wb]) [0] (I 1 * R)
    rw [hI1]
    exact Undo.log_out (h.perm (by unfold PHP LG; rw [e9]; ac_rfl))) (Nat.zero_le _) (by show 1 ≤ 1000000; omega) (by show 0 ≤ 1000000; omega) (fun j hj hj2 => ?_)).mono ?_
  · have hj0 : j = 0 := by
      have : j < 1 := hj2
      omega
    subst hj0
    refine ⟨76, #[pp sb, pp wb], rfl, enters_back, fun S W hS => ?_⟩
    rw [show (0 + 1 : Nat) = 1 from rfl, hI1] at hS
    refine (back_calls p i sb wb was (St c N (fOf b p [Nt.mk i was sb wb]) (gOf p [Nt.mk i was sb wb]) P * emp) (St c (N + 1) (fun k => fOf b p [Nt.mk i was sb wb] k - dl p.fds[i].has k) (gOf p [Nt.mk i was sb wb]) Q * emp) W S hi h16 (t_goneP hl (by omega) hn h5 hPQ) (hS.perm (by rw [sep_emp]; ac_rfl))).mono ?_
    rintro e w' ⟨⟨rfl, hS'⟩, hR⟩
    refine ⟨⟨_, rfl⟩, ?_, hR⟩
    rw [hI0, put_fd hi]
    have h3 := (hS'.perm (show _ = noteHp p.pb i p.tx sb wb was * (St c (N + 1) (fun k => fOf b p [Nt.mk i was sb wb] k - dl p.fds[i].has k) (gOf p [Nt.mk i was sb wb]) Q * pcHp (p.slot i was) * S) by rw [sep_emp]; ac_rfl)).right
    rw [show (fun k => fOf b p [Nt.mk i was sb wb] k - dl p.fds[i].has k) = fOf b (p.slot i was) [] by
      funext k
      have e1 := f_snoc (b := b) (p := p) (nl := []) (Nt.mk i was sb wb) k
      rw [List.nil_append] at e1
      rw [e1, f_slot hil]
      dsimp only
      rw [if_pos hi]
      omega] at h3
    rw [show gOf p [Nt.mk i was sb wb] = gOf (p.slot i was) [] by
      funext k
      have e1 := g_snoc (p := p) (nl := []) (Nt.mk i was sb wb) k
      rw [List.nil_append] at e1
      rw [e1]
      dsimp only
      rw [if_neg (fun e => by omega)]
      show gOf p [] k + 0 = gOf p [] k
      omega] at h3
    exact h3
  · rintro e w' ⟨rfl, hS, hR⟩
    refine ⟨rfl, ?_, hR⟩
    rw [hI0] at hS
    have h3 := Undo.log_in hS
    obtain ⟨g1, g2, g3, g4, g5, g6, g7⟩ := Pc.put_same p i was
    refine h3.perm ?_
    unfold PHP LG
    rw [g4]
    have e8 : notesHp (p.put i was) [] = emp := rfl
    rw [e8, emp_sep]
    show Undo.logHp p.lb most 4 [] [] * (_ * R) = _ * (Undo.logHp p.lb most 4 [] [] * _) * R
    ac_rfl
end
end Go.Proofs.YteienbdbhnikbaaGreatDoor.Pr

namespace Go.Proofs.YteienbdbhnikbaaGreatDoor.Pr
open Go.RowKit Go.Maps Go.Proofs.YteienbdbhnikbaaGreatDoor Go.Proofs.YteienbdbhnikbaaGreatDoor.Hp Go.Proofs.YteienbdbhnikbaaGreatDoor.Hd
set_option linter.unusedVariables false
attribute [local go_sem] Oper.semAt_some

set_option maxRecDepth 100000 in
set_option maxHeartbeats 1000000 in
/-- file, where nothing is and something is made. -/
theorem file_go (pb fb : Nat) (dh : Int) (path : ByteArray) (w : World) (Q : Int → World → Prop) (Z : World → Prop) (hZ : ∀ W, Z W → W.cell? ⟨pb, 0, none⟩ = some (pp fb) ∧ W.cell? ⟨pb, 67, none⟩ = some (.int .i64 dh)) (h0 : Z w.drew)
    (HW : Calls Tryz.prog 28 #[pp fb, .int .i64 dh, .string path, .bool true] w.drew fun e w1 => e = .returned (.tuple #[.int .i64 0, .int .i64 10]) ∧ Z w1 ∧ Z w1.drew ∧
      Calls Tryz.prog 33 #[pp fb, .int .i64 dh, .string path, .int .i64 2, .string ⟨#[]⟩] w1.drew fun e w2 => ∃ n, e = .returned (.tuple #[.int .i64 n, .int .i64 0]) ∧ Z w2 ∧ Q n w2) :
    Calls Tryz.prog 61 #[pp pb, .string path, .int .i64 2] w fun e w' => ∃ n, e = .returned (.tuple #[.int .i64 n, .int .i64 0]) ∧ Q n w' := by
  obtain ⟨k1, k2⟩ := hZ _ h0
  have HW := Lib.hid HW
  have hZ := Lib.hid hZ
  clear h0
  go_enter Tryz.func61, Tryz.ntmps61
  go_upto_region 1 with fail
  refine region_plan (S := (fun w' => w'.cell? ⟨pb, 0, none⟩ = some (pp fb) ∧ w'.cell? ⟨pb, 67, none⟩ = some (.int .i64 dh))) [(0, true), (1, true), (2, true), (3, true), (4, true), (5, true), (6, true), (7, true), (8, true), (9, true), (10, false), (11, true), (12, true), (13, true), (14, true), (15, true)] (by kernel_rfl) (by kernel_rfl) (by kernel_rfl) ?_ ?_
  · ((try dsimp only); (first | done | (first | exact ⟨k1, k2⟩ | exact K5)))
  simp only [planOps, List.map_cons, List.map_nil, List.getElem?_toArray, List.getElem?_cons_zero, List.getElem?_cons_succ]
  repeat (first
    | ((refine plan_yes (v := ?_) (by rfl) ?_ ?_); rotate_left; (focus (intro w hSw; (try dsimp only at hSw); go_simp; try (with_reducible rfl))); (try simp only [Act.put, List.setIfInBounds_toArray, List.set_cons_zero, List.set_cons_succ]))
    | ((refine plan_no (by rfl) ?_); (try simp only [Act.put, List.setIfInBounds_toArray, List.set_cons_zero, List.set_cons_succ]))
    | ((refine plan_step (fun K hK => ?_)); (first | (go_simp; ((go_at_call 28; refine HW.out.mono ?_; rintro e w5 ⟨rfl, K1, K2, HM⟩; have K5 := hZ.out _ K1)); (try go_wp2_with fail)) | go_simp); (refine hK.out _ _ ?_ (fun hHeld => ?_)); (focus ((try dsimp only); (first | done | (first | exact ⟨k1, k2⟩ | exact K5)))); clear hK K; (try simp only [Act.put, List.setIfInBounds_toArray, List.set_cons_zero, List.set_cons_succ])))
  refine plan_done ?_
  have HM := Lib.hid HM
  obtain ⟨j1, j2⟩ := hZ.out _ K2
  clear K1 K2 K5 k1 k2 HW
  go_upto_region 3 with fail
  refine region_plan (S := (fun w' => w'.cell? ⟨pb, 0, none⟩ = some (pp fb) ∧ w'.cell? ⟨pb, 67, none⟩ = some (.int .i64 dh))) [(0, true), (1, true), (2, true), (3, true), (4, true), (5, true), (6, true), (7, true), (8, true), (9, true), (10, false), (11, true), (12, true), (13, true), (14, true)] (by kernel_rfl) (by kernel_rfl) (by kernel_rfl) ?_ ?_
  · ((try dsimp only); (first | done | (first | exact ⟨j1, j2⟩ | exact K7)))
  simp only [planOps, List.map_cons, List.map_nil, List.getElem?_toArray, List.getElem?_cons_zero, List.getElem?_cons_succ]
  repeat (first
    | ((refine plan_yes (v := ?_) (by rfl) ?_ ?_); rotate_left; (focus (intro w hSw; (try dsimp only at hSw); go_simp; try (with_reducible rfl))); (try simp only [Act.put, List.setIfInBounds_toArray, List.set_cons_zero, List.set_cons_succ]))
    | ((refine plan_no (by rfl) ?_); (try simp only [Act.put, List.setIfInBounds_toArray, List.set_cons_zero, List.set_cons_succ]))
    | ((refine plan_step (fun K hK => ?_)); (first | (go_simp; ((go_at_call 33; refine HM.out.mono ?_; rintro e w7 ⟨n, rfl, K6, hQ⟩; have K7 := hZ.out _ K6)); (try go_wp2_with fail)) | go_simp); (refine hK.out _ _ ?_ (fun hHeld => ?_)); (focus ((try dsimp only); (first | done | (first | exact ⟨j1, j2⟩ | exact K7)))); clear hK K; (try simp only [Act.put, List.setIfInBounds_toArray, List.set_cons_zero, List.set_cons_succ])))
  refine plan_done ?_
  have hQ := Lib.hid hQ
  clear K6 K7 HM
  go_wp2_with fail
  go_ret2
  exact ⟨n, rfl, hQ.out⟩
set_option maxRecDepth 100000 in
set_option maxHeartbeats 1000000 in
/-- Open, where all goes well. -/
theorem open_go (pb tb i : Nat) (hi : i < 16) (path : ByteArray) (w : World) (Q : World → Prop)
    (HF : Calls Tryz.prog 61 #[pp pb, .string path, .int .i64 2] w fun e w1 => ∃ n, e = .returned (.tuple #[.int .i64 n, .int .i64 0]) ∧ w1.cell? ⟨pb, 1, none⟩ = some (pp tb) ∧
      Calls Tryz.prog 62 #[pp tb, .int .i64 n, mdV mdW] w1 fun e w2 => ∃ id, e = .returned (.tuple #[.int .i64 id, .int .i64 0]) ∧
        Calls Tryz.prog 56 #[pp pb, slP pb i, .int .i64 id] w2 fun e w3 => e = .returned (.int .i64 0) ∧ w3.cell? ⟨pb, 1, none⟩ = some (pp tb) ∧
          Calls Tryz.prog 52 #[pp tb, .int .i64 id] w3 fun e w4 => ∃ v, e = .returned (.int .i64 v) ∧ Q w4) :
    Calls Tryz.prog 26 #[pp pb, .int .i64 (i : Int), .string path, .int .i64 2] w fun e w' => e = .returned (.int .i64 0) ∧ Q w' := by
  have HA := Lib.hid (at_calls pb i hi w)
  have HF := Lib.hid HF
  go_enter Tryz.func26, Tryz.ntmps26
  go_wp2_with fail
  refine HA.out.mono ?_
  rintro e w1 ⟨rfl, rfl⟩
  go_wp2_with fail
  refine HF.out.mono ?_
  rintro e w2 ⟨n, rfl, a1, HFl⟩
  have HFl := Lib.hid HFl
  go_wp2_with fail
  refine HFl.out.mono ?_
  rintro e w3 ⟨id, rfl, HSt⟩
  have HSt := Lib.hid HSt
  go_wp2_with fail
  refine HSt.out.mono ?_
  rintro e w4 ⟨rfl, a4, HUn⟩
  have HUn := Lib.hid HUn
  go_wp2_with fail
  refine HUn.out.mono ?_
  rintro e w5 ⟨v, rfl, hq⟩
  have hq := Lib.hid hq
  go_wp2_with fail
  go_ret
  exact ⟨rfl, hq.out⟩
section
variable {c : Pls} {N : Nat} {b : Int → Int} {most : Int} {p : Pc} {nl : List Nt} {ms : List Nat} {w : World} {R : Hp} {P Q : Sg → Prop}
variable {A : List (UInt8 × Int × ByteArray)} {H : List (Int × Int × Nat)} {l u : Nat}
theorem php_bes (h : Sat w (PHP c N b most p nl ms P * R)) : ∃ s, InvT N s ∧ (∀ k, rf s.L k = fOf b p nl k) ∧ (∀ k, xt s k = gOf p nl k) ∧ P s ∧ Sat w (SgHp c s * (Bes most p nl ms * R)) :=
  st_out (h.perm (show _ = St c N (fOf b p nl) (gOf p nl) P * (Bes most p nl ms * R) by unfold PHP Bes; ac_rfl))
theorem php_pc (h : Sat w (PHP c N b most p nl ms P * R)) : Sat w (pcHp p * (St c N (fOf b p nl) (gOf p nl) P * (LG p most nl ms * notesHp p nl) * R)) := h.perm (by unfold PHP; ac_rfl)
/-- Open of a name that is not there. -/
theorem o_open (hl : Link c p) (hN : N ≤ 500000) (hb : Base b) {i : Nat} (hi : i < 16) {d : UInt8} (hd : d = 102 ∨ d = 103) (hA : ∀ x ∈ A, x.1 ≠ d) (hdir : p.dir.has = 1) {mk : Int} (hs : p.sl i = ⟨0, mk⟩) (hm : (ms.length : Int) ≤ mk) (hl12 : l + 1 ≤ 12) (hu : u ≤ 100) (hG : Glob R) (h : Sat w (PHP c N b most p nl ms (Aw A H l u) * R)) :
    Calls Tryz.prog 26 #[pp p.pb, .int .i64 (i : Int), .string (n1 d), .int .i64 2] w fun e w' => e = .returned (.int .i64 0) ∧ ∃ k id, 5 ≤ id ∧ id ≤ 1000000 ∧ fOf b p nl id = 0 ∧ (∀ x ∈ A, x.2.1 ≠ k) ∧ (∀ x ∈ H, x.1 ≠ id) ∧ Sat w' (PHP c (N + 4) b most (p.put i ⟨id, mk⟩) nl ms (Aw ((d, k, ⟨#[]⟩) :: A) ((id, k, 0) :: H) (l + 1) u) * R) ∧ Ran w w' := by
  have hsm : Sm d := by
    rcases hd with rfl | rfl
    · exact .inr (.inr (.inr (.inl rfl)))
    · exact .inr (.inr (.inr (.inr rfl)))
  refine open_go p.pb c.tb i hi (n1 d) w _ ?_
  obtain ⟨s, hI, hf, hg, hP, hS⟩ := php_bes h
  obtain ⟨r, kd, hr, hrk, hkd, hkA, hkn⟩ := hP.root
  have hM : kd.M (n1 d) = none := hkn d hd hA
  refine (file_go p.pb p.fb p.dir.has (n1 d) w (fun n w2 => w2.cell? ⟨p.pb, 1, none⟩ = some (pp c.tb) ∧ ∃ s2 : Sg, ∃ x, Hd.find s2.F.L n = some x ∧ x.kind = 2 ∧ (∀ x ∈ A, x.2.1 ≠ n) ∧ InvT (N + 1) s2 ∧ (∀ k, rf s2.L k = rf s.L k) ∧ (∀ k, xt s2 k = xt s k) ∧ Aw ((d, n, ⟨#[]⟩) :: A) H (l + 1) u s2 ∧ Sat w2 (SgHp c s2 * (Bes most p nl ms * R)) ∧ Ran w w2) (fun W => ∃ s, Sat W (SgHp c s * (Bes most p nl ms * R))) (fun W ⟨s, hW⟩ => bes_cells hl.len hW) ⟨s, hS.drew⟩ ?_).mono ?_
  · rw [hdir, hl.fb]
    refine (Walk_calls c.fb c.mb s.F (hI.tree.ok (by omega)) hI.tree.nums 1 (n1 d) true w.drew _ i64_1 (by show 1 ≤ 1000000; omega) hG.more.more.more.more.more (sg_open hS.drew)).mono ?_
    rintro e w1 ⟨⟨rfl, S1⟩, R1⟩
    rw [walk_no hsm hr hrk hkd hM]
    have S1 : Sat w1 (SgHp c s * (Bes most p nl ms * R)) := sg_shut S1
    have HP := placeN_calls c.fb c.mb N s.F hI.tree (by omega) 1 (n1 d) 2 w1.drew _ i64_1 (by show 1 ≤ 1000000; omega) hG.more.more.more.more.more (sg_open S1.drew)
    rw [place_sm hsm hr hrk hkd hM] at HP
    refine ⟨rfl, ⟨s, S1⟩, ⟨s, S1.drew⟩, ?_⟩
    obtain ⟨g, hgf⟩ := freeN s.F.L
    have hes := (hI.tree.each 1 r hr).2.2.2 kd hkd
    have hn := hI.tree.n
    have hmo := hP.most
    have hro := hP.room
    have hus := hP.used
    have hle := hP.len
    have e0 : (((⟨#[]⟩ : ByteArray).size : Nat) : Int) = 0 := rfl
    refine (MakeG_calls c.fb c.mb s.F 1 (n1 d) 1 r kd (n1 d) g ⟨#[]⟩ 2 i64_1 (by show 1 ≤ 1000000; omega) (.inl rfl) ⟨hr, hrk, hkd, hM, by omega, hgf, by omega, by omega, Nat.zero_le _, by omega, fs_u hI, fs_r hI⟩ w1.drew _ HP).mono ?_
    rintro e w2 ⟨⟨rfl, nb, S2⟩, R2⟩
    have hy : NewN 1 ⟨nb, 2, ⟨#[]⟩, none, 0, 1, 0⟩ := ⟨.inr ⟨.inl rfl, rfl⟩, fun kd h => (by cases h), .inl rfl, rfl, rfl, Nat.zero_le _⟩
    have hT := hI.tree.make (by omega) hr hrk hkd (.inl rfl) hM hgf hy (by show s.F.used + 0 ≤ _; omega)
    obtain ⟨hI', hx'⟩ := hI.same (madeG s.F 1 r kd (n1 d) g ⟨nb, 2, ⟨#[]⟩, none, 0, 1, 0⟩) hT (kp_made hr hgf.none) (hf_made hr hgf.none rfl)
    have S2 : Sat w2 (SgHp c { s with F := madeG s.F 1 r kd (n1 d) g ⟨nb, 2, ⟨#[]⟩, none, 0, 1, 0⟩ } * (Bes most p nl ms * R)) := sg_shut S2
    refine ⟨g, rfl, ⟨_, S2⟩, ?_, { s with F := madeG s.F 1 r kd (n1 d) g ⟨nb, 2, ⟨#[]⟩, none, 0, 1, 0⟩ }, ⟨nb, 2, ⟨#[]⟩, none, 0, 1, 0⟩, ?_, rfl, fun x hx e => ?_, hI', fun _ => rfl, hx', aw_make hP hI.tree hA hr hrk hkd hgf nb, S2, Below.trans (Below.trans (Ran.drewN (Below.refl 0 w) 1) R1) (Below.trans (Ran.drewN (Below.refl 0 w1) 1) R2)⟩
    · have := (pc_heads (bes_pc S2)).2.1
      rw [hl.tb] at this
      exact this
    · show Hd.find (madeG s.F 1 r kd (n1 d) g ⟨nb, 2, ⟨#[]⟩, none, 0, 1, 0⟩).L (g : Int) = _
      rw [find_madeG hr, if_pos rfl]
    · obtain ⟨-, z, hz, -⟩ := hP.nodes x hx
      rw [e, hgf.none] at hz; cases hz
  · rintro e w1 ⟨n, rfl, a1, s2, x, hx, hk2, hAn, hI2, hf2, hg2, hP2, S1, R1⟩
    refine ⟨n, rfl, a1, ?_⟩
    obtain ⟨g, hgf⟩ := free_ex s2.L
    have h4 : ∀ k : Int, 1 ≤ k → k ≤ 4 → 1 ≤ rf s2.L k := fun k h1 h4 => by
      rw [hf2, hf]
      have h2 := nF0 p.fds k
      have h3 := nN0 nl k
      have h5 := (hb k).2 h1 h4
      unfold fOf
      omega
    have h5 : 5 ≤ g := by
      have gp := hgf.pos
      have gn := hgf.none
      by_cases e : g ≤ 4
      · obtain ⟨y, hy⟩ := rf_pos (h4 (g : Int) (by omega) (by omega))
        rw [gn] at hy; cases hy
      · omega
    refine (File_calls c.tb c.fb c.mb c.bp c.hm s2.n s2.F s2.L n mdW x g (hI2.tree.in_i64 hx) (hI2.tree.ok (by omega)) hx hk2 (.inr rfl) hgf (by have := hI2.len.2; omega) w1 _ (sg_open S1)).mono ?_
    rintro e w2 ⟨⟨rfl, hbb, xb, S2⟩, R2⟩
    obtain ⟨hI3, hx3⟩ := hI2.opened (hb := hbb) (xb := xb) (m := mdW) hgf h5 hx hk2 (holdP s2.F n) (hI2.tree.hold n) (kp_hold n) (hf_hold hx)
    have hg0 : rf s2.L (g : Int) = 0 := by unfold rf; rw [hgf.none]
    have hid0 : fOf b p nl (g : Int) = 0 := by rw [← hf, ← hf2]; exact hg0
    have hP3 : Aw ((d, n, ⟨#[]⟩) :: A) (((g : Int), n, 0) :: H) (l + 1) u { s2 with F := holdP s2.F n, L := ((g : Int), ⟨hbb, 1, xb, .file n 0 mdW⟩) :: s2.L, n := s2.n + 1 } := aw_open (aw_hold hP2 n) (s := { s2 with F := holdP s2.F n }) hgf.none n hbb xb (s2.n + 1)
    have hHn : ∀ x ∈ H, x.1 ≠ (g : Int) := fun x hx e => by
      obtain ⟨y, hy, -⟩ := hP2.hands x hx
      rw [e, hgf.none] at hy; cases hy
    have S3 : Sat w2 (SgHp c { s2 with F := holdP s2.F n, L := ((g : Int), ⟨hbb, 1, xb, .file n 0 mdW⟩) :: s2.L, n := s2.n + 1 } * (Bes most p nl ms * R)) := sg_shut (by rw [snks_cons _ _ _ rfl]; exact S2)
    have S4 : Sat w2 (PHP c (N + 1 + 1) (fun k => b k + dl (g : Int) k) most p nl ms (Aw ((d, n, ⟨#[]⟩) :: A) (((g : Int), n, 0) :: H) (l + 1) u) * R) := ph_in hI3 (fun k => by
      show rf (((g : Int), _) :: s2.L) k = _
      rw [rf_cons, f_more, dl_if (by omega)]
      by_cases e : k = (g : Int)
      · rw [if_pos e, if_pos e, e, hid0]; rfl
      · rw [if_neg e, if_neg e, hf2, hf]; omega) (fun k => (hx3 k).trans ((hg2 k).trans (hg k))) hP3 S3
    refine ⟨(g : Int), rfl, ?_⟩
    refine (fd_nowP (Q := Aw ((d, n, ⟨#[]⟩) :: A) (((g : Int), n, 0) :: H) (l + 1) u) hl (by omega) hi (by omega) (by rw [f_more, dl_self (by omega)]; omega) hs hm (fun s y hP hy => aw_refs hP hy _) S4).mono ?_
    rintro e w3 ⟨rfl, S5, R5⟩
    obtain ⟨q1, q2, q3, q4, q5, q6, q7⟩ := Pc.put_same p i ⟨(g : Int), mk⟩
    refine ⟨rfl, ?_, ?_⟩
    · have := (pc_heads (php_pc S5)).2.1
      rw [q1, q3, hl.tb] at this
      exact this
    · have hil : i < p.fds.length := by have := hl.len; omega
      have hff : fOf (fun k => b k + dl (g : Int) k) (p.put i ⟨(g : Int), mk⟩) nl (g : Int) = 2 := by
        rw [put_fd hi, f_slot hil, f_more, ← sl_fd hi hil, hs, hid0]
        show 0 + dl (g : Int) (g : Int) - dl 0 (g : Int) + dl (g : Int) (g : Int) = 2
        rw [dl_self (by omega), dl_0]
        rfl
      refine (x_Unref (Q := Aw ((d, n, ⟨#[]⟩) :: A) (((g : Int), n, 0) :: H) (l + 1) u) (n := (g : Int)) (by omega) (by rw [hff]; exact Int.le_refl _) (fun s y hP hy => aw_refs hP hy _) (S5.perm (show _ = St c (N + 1 + 1 + 1) (fOf (fun k => b k + dl (g : Int) k) (p.put i ⟨(g : Int), mk⟩) nl) (gOf (p.put i ⟨(g : Int), mk⟩) nl) (Aw ((d, n, ⟨#[]⟩) :: A) (((g : Int), n, 0) :: H) (l + 1) u) * (LG (p.put i ⟨(g : Int), mk⟩) most nl ms * (notesHp (p.put i ⟨(g : Int), mk⟩) nl * pcHp (p.put i ⟨(g : Int), mk⟩)) * R) by unfold PHP; ac_rfl))).mono ?_
      rintro e w4 ⟨rfl, S6, R6⟩
      refine ⟨0, rfl, n, (g : Int), by omega, by have := hgf.le; have := hI2.len.1; omega, hid0, hAn, hHn, ?_, Below.trans (Below.trans R1 R2) (Below.trans R5 R6)⟩
      rw [show (fun k => fOf (fun k => b k + dl (g : Int) k) (p.put i ⟨(g : Int), mk⟩) nl k - if k = (g : Int) then 1 else 0) = fOf b (p.put i ⟨(g : Int), mk⟩) nl from funext fun k => by rw [f_more, dl_if (by omega)]; omega] at S6
      exact S6.perm (by unfold PHP; ac_rfl)
end
end Go.Proofs.YteienbdbhnikbaaGreatDoor.Pr

namespace Go.Proofs.YteienbdbhnikbaaGreatDoor.Pr
open Go.RowKit Go.Maps Go.Proofs.YteienbdbhnikbaaGreatDoor Go.Proofs.YteienbdbhnikbaaGreatDoor.Hp Go.Proofs.YteienbdbhnikbaaGreatDoor.Hd
set_option linter.unusedVariables false
attribute [local go_sem] Oper.semAt_some
attribute [local go_sem] run_store_func

theorem appInt {w : World} {H : Hp} {ops : Array Oper} {rest : List Oper} {o : Oper} {a : Act} {Q : Exit → Act → World → Prop} (hgd : o.guard = none) (s x : Operand)
    (ho : o.op = .call { callee := .builtin .append, args := #[s, x], argTypes := #[44, 44] })
    (p : Option Addr) (n cap : Nat) (xs : List Value) (hp : a.eval s = .slice p n cap) (b : Nat) (hvx : a.eval x = .slice (some ⟨b, 0, none⟩) 1 1) (h : Sat w (arr 3 1 p n cap xs * H)) (v : Value) (hb : w.heap[b]? = some (.cells #[v] 3 (0, 0))) (h0 : v.oneCell' = true) (hn : n ≤ 1000000000)
    (hk : ∀ p' cap' w', Sat w' (arr 3 1 p' (n + 1) cap' (xs ++ [v]) * H) → Ran w w' → wpList Tryz.prog ops Q rest (a.put o.dst (.slice p' (n + 1) cap')) w') : wpList Tryz.prog ops Q (o :: rest) a w := by
  obtain ⟨i0, hi, hz0, hz1, hz2⟩ := info_parts Undo.infoInt
  refine wpList_append_arr hgd s x _ _ ho 3 i0 _ 1 8 Tryz.underlying44 hi hz0 hz1 hz2 rfl p n cap xs hp h _ hvx 1 [v] (Src.ofSlice w Tryz.underlying44 ⟨b, 0, none⟩ 1 1 [v] (by rw [hz1]; rfl) ?_ (by simp [h0])) (by omega) (by unfold maxLen; omega) (fun p' cap' w' h1 h2 _ => hk p' cap' w' h1 h2)
  intro j u hj
  match j with
  | 0 =>
    rw [List.getElem?_cons_zero, Option.some.injEq] at hj
    subst hj
    rw [show (⟨b, 0, none⟩ : Addr).add 0 = ⟨b, 0, none⟩ from rfl, cell_at hb]
    rfl
  | j + 1 => simp at hj
def nOpen : List Sl → Nat
  | [] => 0
  | s :: l => (if s.has = 0 then 0 else 1) + nOpen l
theorem nOpen_snoc : ∀ (l : List Sl) (s : Sl), nOpen (l ++ [s]) = nOpen l + if s.has = 0 then 0 else 1
  | [], s => by show (if s.has = 0 then 0 else 1) + 0 = 0 + _; omega
  | x :: l, s => by
    have := nOpen_snoc l s
    show _ + nOpen (l ++ [s]) = _ + nOpen l + _
    omega
theorem nOpen_le : ∀ l : List Sl, nOpen l ≤ l.length
  | [] => Nat.le_refl _
  | x :: l => by
    have := nOpen_le l
    show (if x.has = 0 then 0 else 1) + nOpen l ≤ l.length + 1
    split <;> omega
theorem infoSlots : (Tryz.prog.info? 87).map (·.size) = some 64 := by kernel_rfl
theorem infoSlot : (Tryz.prog.info? 86).map (·.size) = some 4 := by kernel_rfl
/-- An element of the slots' array. -/
theorem run_slot (l : List Sl) (h16 : l.length = 16) (a b : Value) (i : Nat) (hi : i < 16) (w : World) :
    (Instr.index 87 (.agg (l.flatMap (slC a b)).toArray) (.int .i64 (i : Int))).run Tryz.prog w = .ok (.agg #[.int .i64 (l[i]'(by omega)).has, .int .i64 (l[i]'(by omega)).mark, a, b]) w := by
  have h0 : (0 : Int) ≤ (i : Int) ∧ (i : Int) < ((16 : Nat) : Int) := by omega
  obtain ⟨i0, hq, hs⟩ : ∃ i0, Tryz.prog.info? 86 = some i0 ∧ i0.size = 4 := by
    have := infoSlot
    cases hq : Tryz.prog.info? 86 with
    | none => rw [hq] at this; cases this
    | some i0 => rw [hq] at this; exact ⟨i0, rfl, by injection this⟩
  have hagg : (isAgg 86).run Tryz.prog w = .ok true w := by kernel_rfl
  have hsz : (sizeOf 86).run Tryz.prog w = .ok 4 w := by simp [sizeOf, typeInfo, hq, hs]
  have hex : (l.flatMap (slC a b)).toArray.extract (i * 4) (i * 4 + 4) = #[.int .i64 (l[i]'(by omega)).has, .int .i64 (l[i]'(by omega)).mark, a, b] := by
    have hil : i < l.length := by omega
    apply Array.ext'
    rw [Array.toList_extract]
    show (List.extract (l.flatMap (slC a b)) (i * 4) (i * 4 + 4)) = slC a b l[i]
    rw [List.extract_eq_take_drop]
    apply List.ext_getElem?
    intro j
    by_cases hj : j < 4
    · rw [List.getElem?_take_of_lt (by omega), List.getElem?_drop, sl_get a b l i j hil hj]
    · rw [List.getElem?_eq_none (by rw [List.length_take]; omega), List.getElem?_eq_none (by show 4 ≤ j; omega)]
  have hpart : (part 86 (l.flatMap (slC a b)).toArray (i * 4)).run Tryz.prog w = .ok (.agg #[.int .i64 (l[i]'(by omega)).has, .int .i64 (l[i]'(by omega)).mark, a, b]) w := by
    unfold part
    rw [Sem.run_bind, hagg]
    simp only [Result.andThen_ok, if_true]
    rw [Sem.run_bind, hsz]
    simp only [Result.andThen_ok, hex]
    rfl
  unfold Instr.index
  simp only [asIntOf, Sem.run_bind, Sem.run_pure, Result.andThen_ok, run_underlying Tryz.underlying87]
  rw [if_pos h0]
  simp only [Sem.run_bind, hsz, Result.andThen_ok, Int.toNat_natCast, hpart]
set_option maxRecDepth 100000 in
set_option maxHeartbeats 2000000 in
theorem Fds_calls (p : Pc) (h16 : p.fds.length = 16) (w : World) (S : Hp) (h : Sat w (pcHp p * S)) :
    Calls Tryz.prog 14 #[pp p.pb] w fun e w' => (∃ pa cap n, e = .returned (.slice pa n cap) ∧ n = nOpen p.fds) ∧ Sat w' (pcHp p * S) ∧ Ran w w' := by
  obtain ⟨cl, hcl⟩ : ∃ cl, cl = p.fds.flatMap (slC (fRef p.tx) (fUnref p.tx)) := ⟨_, rfl⟩
  have hll : cl.length = 64 := by rw [hcl, sl_flat, h16]
  have hrg : w.rangeAt p.pb 3 cl := fun j v hj => by
    rw [hcl] at hj
    rw [pc_at h]
    unfold pcL
    have hjl : j < (p.fds.flatMap (slC (fRef p.tx) (fUnref p.tx))).length := by
      obtain ⟨hk, -⟩ := List.getElem?_eq_some_iff.1 hj
      exact hk
    rw [List.getElem?_append_right (by show 3 ≤ _; omega), show 3 + j - [pp p.fb, pp p.tb, pp p.lb].length = j by show 3 + j - 3 = j; omega, List.getElem?_append_left hjl]
    exact hj
  have hsz : (Tryz.prog.info? 87).map (·.size) = some cl.length := by rw [hll, infoSlots]
  have hrg := Lib.hid hrg
  have hsz := Lib.hid hsz
  have hix := Lib.hid (fun (i : Nat) (hi : i < 16) (W : World) => (by rw [hcl]; exact run_slot p.fds h16 (fRef p.tx) (fUnref p.tx) i hi W : (Instr.index 87 (.agg cl.toArray) (.int .i64 (i : Int))).run Tryz.prog W = .ok (.agg #[.int .i64 (p.fds[i]'(by omega)).has, .int .i64 (p.fds[i]'(by omega)).mark, .func (.func 49) #[] #[pp p.tx], .func (.func 51) #[] #[pp p.tx]]) W))
  have H0 := Lib.hid ((h.nil_arr 3 1).perm (show _ = arr 3 1 none 0 0 ([] : List Value) * (pcHp p * S) from rfl))
  have H16 := Lib.hid h16
  clear h hcl hll
  go_enter Tryz.func14, Tryz.ntmps14
  go_wp2_with (refine wpList_load_mid rfl 87 _ rfl p.pb 3 rfl cl _ hrg.out Tryz.underlying87 rfl hsz.out ?_)
  clear hrg hsz
  go_loopg [3, 12] (16) (fun (g : Nat) (v3 v12 : Value) (wr : World) => ∃ (i : Nat) (xs : List Value) (pa : Option Addr) (cap : Nat), i + g = 16 ∧ v12 = .int .i64 (i : Int) ∧ v3 = .slice pa xs.length cap ∧ xs.length = nOpen (p.fds.take i) ∧ Sat wr (arr 3 1 pa xs.length cap xs * (pcHp p * S)) ∧ Ran w wr)
  case atStart => exact ⟨0, [], none, 0, rfl, rfl, rfl, rfl, H0.out, Below.refl 0 _⟩
  case round =>
    obtain ⟨i, xs, pa, cap, hig, rfl, rfl, hxs, HS, HR⟩ := hrel
    have hi0 : (0 : Int) ≤ (i : Int) := by omega
    by_cases hi : i < 16
    · have hlt : (i : Int) < 16 := by omega
      have hil : i < p.fds.length := by have := H16.out; omega
      have hxl : xs.length ≤ 16 := by
        have := nOpen_le (p.fds.take i)
        rw [List.length_take] at this
        omega
      have ht : nOpen (p.fds.take (i + 1)) = nOpen (p.fds.take i) + if p.fds[i].has = 0 then 0 else 1 := by
        rw [List.take_succ_eq_append_getElem hil, nOpen_snoc]
      have hx := hix.out i hi wr
      obtain ⟨s, hsl⟩ : ∃ s, s = p.fds[i] := ⟨_, rfl⟩
      rw [← hsl] at hx ht
      obtain ⟨sh, sm⟩ := s
      dsimp only at hx ht
      have SA := HS.alloc (wasO ⟨sh, sm⟩ p.tx)
      have z0 : (wr.alloc (wasO ⟨sh, sm⟩ p.tx)).cell? ⟨wr.heap.size, 0, none⟩ = some (.int .i64 sh) := by rw [cell_at SA.get]; rfl
      have SR := SA.right
      have RA := Lib.hid (Ran.new HR (wasO ⟨sh, sm⟩ p.tx))
      have Hxs := Lib.hid hxs
      have Ht := Lib.hid ht
      have Hig := Lib.hid hig
      clear SA HS HR hxs ht hig hsl hix
      by_cases hz : sh = 0
      · subst hz
        have SR := Lib.hid SR
        go_wp2_with fail
        go_roundg (gk - 1)
        case measure => have := Hig.out; omega
        case rel => exact ⟨i + 1, xs, pa, cap, by have := Hig.out; omega, rfl, rfl, by rw [Ht.out]; simp [Hxs.out], SR.out, RA.out⟩
      · have hzb : (sh == 0) = false := by simpa using hz
        have SB := SR.old (.cells #[.int .i64 (i : Int)] 3 (0, 0))
        have RB := Lib.hid (Ran.new RA.out (.cells #[.int .i64 (i : Int)] 3 (0, 0)))
        have Hz := Lib.hid hz
        have hxn : xs.length ≤ 1000000000 := by omega
        clear SR RA
        go_wp2_with (at_builtin; go_loud (refine appInt rfl _ _ rfl pa xs.length cap xs rfl _ rfl SB _ (Undo.blk_new (by rw [World.size_alloc])) rfl hxn ?_; intro p' cap' w6 T6 R6; clear SB))
        have T6 := Lib.hid T6
        have R6 := Lib.hid (Below.trans RB.out R6)
        go_roundg (gk - 1)
        case measure => have := Hig.out; omega
        case rel => exact ⟨i + 1, xs ++ [.int .i64 (i : Int)], p', cap', by have := Hig.out; omega, rfl, by rw [List.length_append]; rfl, by rw [Ht.out, if_neg Hz.out, List.length_append, Hxs.out]; rfl, by rw [List.length_append]; exact T6.out, R6.out⟩
    · have h16 : i = 16 := by omega
      subst h16
      have hq : xs.length = nOpen p.fds := by rw [hxs, List.take_of_length_le (by have := H16.out; omega)]
      have HS := Lib.hid HS.right
      have HR := Lib.hid HR
      have Hq := Lib.hid hq
      clear hxs hix hq
      go_wp2_with fail
      go_ret
      exact ⟨⟨_, _, _, rfl, Hq.out⟩, HS.out, HR.out⟩
end Go.Proofs.YteienbdbhnikbaaGreatDoor.Pr

