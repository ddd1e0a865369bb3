/- HandlesPlays, part 28 of 29: the texts SvU, joined by a program. -/
import Derived.Test.YtlmjidandjemjaaGreatDoorSp27
namespace Go.Proofs.YtlmjidandjemjaaGreatDoor.State
open Go.RowKit Go.Proofs.YtlmjidandjemjaaGreatDoor Go.Proofs.YtlmjidandjemjaaGreatDoor.Hp Go.Proofs.YtlmjidandjemjaaGreatDoor.Undo
set_option linter.unusedVariables false
attribute [local go_sem] Oper.semAt_some

theorem RdR.strs {R : Hp} {p : Option Addr} {cap : Nat} {L : List ByteArray} (h : RdR gC 1 R p cap L) {w : World} {S : Hp} (hw : Sat w (S * R)) : StrsAt w p L := by
  by_cases he : L = []
  · exact .inl he
  · have h0 : 0 < L.length := List.length_pos_iff.2 he
    obtain ⟨b, o, hp, -⟩ := h.cells w S hw 0 h0
    refine .inr ⟨b, o, hp, fun j hj => ?_⟩
    obtain ⟨b2, o2, hp2, hc⟩ := h.cells w S hw j hj
    rw [hp] at hp2
    injection hp2 with hp2
    injection hp2 with e1 e2
    subst e1
    subst e2
    have := hc 0 (by omega)
    rw [Nat.mul_one, Nat.add_zero] at this
    exact this
/-- What Same needs of both sides. -/
structure SmOk (K : Ctx) (n : Now) (b : Nat) (s : Sr) (c : Nat) (A F : Hp) (np : Option Addr) (names : List ByteArray) : Prop where
  g : SrG A n.s n.q c s
  p : GoodP n.s
  N : n.N ≤ 900000
  c : c ≤ 80000
  nm : ∀ W Y, Sat W (Y * F) → StrsAt W np names
  nl : names.length ≤ 1000
  ns : ∀ x ∈ names, x.size ≤ 5000
abbrev smR (b : Nat) (s : Sr) (A F : Hp) : Hp := pts b (srO s) * (A * F)
theorem SAt.inR {K : Ctx} {w : World} {n : Now} {R : Hp} (h : SAt K w n R) : Sat w (emp * R) := by rw [emp_sep]; exact h.rest
def SmC (n : Now) (b : Nat) (s : Sr) (W : World) : Prop := W.cell? ⟨b, 0, none⟩ = some (.slice s.vp s.V.length s.vc) ∧ W.cell? ⟨b, 2, none⟩ = some (.slice s.ap s.A.length s.ac) ∧ W.cell? ⟨b, 4, none⟩ = some (.string n.s.o) ∧ W.cell? ⟨b, 5, none⟩ = some (.slice s.gp n.s.l.length s.gc) ∧
    W.cell? ⟨b, 6, none⟩ = some (.int .i64 n.s.here) ∧ W.cell? ⟨b, 7, none⟩ = some (.int .i64 n.s.within) ∧ W.cell? ⟨b, 8, none⟩ = some (.int .i64 n.q)
theorem sm_cells {K : Ctx} {n : Now} {b : Nat} {s : Sr} {c : Nat} {A F : Hp} {np : Option Addr} {names : List ByteArray} (h : SmOk K n b s c A F np names) {W : World} {Y : Hp} (hW : Sat W (Y * smR b s A F)) : SmC n b s W := by
  unfold smR at hW
  obtain ⟨c0, c1, c2, c3, c4, c5, c6, c7, c8⟩ := sr_cells (hW.perm (show _ = pts b (srO s) * (Y * (A * F)) by ac_rfl))
  have hi := h.g.is
  rw [hi.o] at c4
  rw [hi.G] at c5
  rw [hi.at_] at c6
  rw [hi.in_] at c7
  rw [hi.q] at c8
  exact ⟨c0, c2, c4, c5, c6, c7, c8⟩
theorem sm_args {K : Ctx} {n : Now} {b : Nat} {s : Sr} {c : Nat} {A F : Hp} {np : Option Addr} {names : List ByteArray} (h : SmOk K n b s c A F np names) {W : World} {Y : Hp} (hW : Sat W (Y * smR b s A F)) : StrsAt W s.gp n.s.l := by
  unfold smR at hW
  have hs := h.g.ok.G.strs (hW.perm (show _ = (Y * (pts b (srO s) * F)) * A by ac_rfl))
  rw [h.g.is.G] at hs
  exact hs
theorem sm_sizes {K : Ctx} {n : Now} {b : Nat} {s : Sr} {c : Nat} {A F : Hp} {np : Option Addr} {names : List ByteArray} (h : SmOk K n b s c A F np names) : ∀ x ∈ s.V, x.1.size ≤ 1000000 ∧ x.2.val.size ≤ 1000000 := fun x hx => by
  have h1 := h.g.is.V.2 x hx
  have h2 := h.p.V x.1 (by rw [h1]; rfl)
  have h3 : n.s.var x.1 = x.2 := by unfold Pst.var; rw [h1]; rfl
  rw [h3] at h2
  omega
theorem decide_self {α : Type} [DecidableEq α] (a : α) : decide (a = a) = true := decide_eq_true rfl
theorem sm_keys {K : Ctx} {n : Now} {b : Nat} {s : Sr} {c : Nat} {A F : Hp} {np : Option Addr} {names : List ByteArray} (h : SmOk K n b s c A F np names) {ks : List ByteArray} (hk : KeysOf n.s.V ks) : ks = s.V.map Prod.fst := keys_unique hk h.g.is.V.1
theorem sm_keysA {K : Ctx} {n : Now} {b : Nat} {s : Sr} {c : Nat} {A F : Hp} {np : Option Addr} {names : List ByteArray} (h : SmOk K n b s c A F np names) {ks : List ByteArray} (hk : KeysOf n.s.A ks) : ks = s.A.map Prod.fst := keys_unique hk h.g.is.A.1
/-- The names that are asked for traps. -/
def TL : List ByteArray := [⟨#[69, 88, 73, 84]⟩, ⟨#[72, 85, 80]⟩, ⟨#[73, 78, 84]⟩, ⟨#[84, 69, 82, 77]⟩, ⟨#[85, 83, 82, 49]⟩, ⟨#[75, 73, 76, 76]⟩]
abbrev tlO : Obj := .cells #[.string ⟨#[69, 88, 73, 84]⟩, .string ⟨#[72, 85, 80]⟩, .string ⟨#[73, 78, 84]⟩, .string ⟨#[84, 69, 82, 77]⟩, .string ⟨#[85, 83, 82, 49]⟩, .string ⟨#[75, 73, 76, 76]⟩] 9 (0, 0)
theorem TL_len : TL.length = 6 := rfl
theorem TL_size : ∀ i (h : i < TL.length), TL[i].size ≤ 4 := by
  intro i h
  have h6 : i < 6 := h
  match i, h6 with
  | 0, _ => exact Nat.le_refl 4
  | 1, _ => exact Nat.le_succ 3
  | 2, _ => exact Nat.le_succ 3
  | 3, _ => exact Nat.le_refl 4
  | 4, _ => exact Nat.le_refl 4
  | 5, _ => exact Nat.le_refl 4
theorem tl_cell {w : World} {b : Nat} {S : Hp} (h : Sat w (pts b tlO * S)) (i : Nat) (hi : i < TL.length) : w.cell? ⟨b, i, none⟩ = some (.string TL[i]) := by
  rw [cell_at h.get]
  have h6 : i < 6 := hi
  match i, h6 with
  | 0, _ => rfl
  | 1, _ => rfl
  | 2, _ => rfl
  | 3, _ => rfl
  | 4, _ => rfl
  | 5, _ => rfl
set_option maxRecDepth 100000 in
set_option maxHeartbeats 16000000 in
theorem same_calls (K : Ctx) (n : Now) (b : Nat) (s : Sr) (c : Nat) (A F : Hp) (np : Option Addr) (nc : Nat) (names : List ByteArray) (w : World) (H : SmOk K n b s c A F np names) (h : SAt K w n (smR b s A F)) :
    Calls Tryz.prog 32 #[pp K.sb, pp b, .slice np names.length nc] w fun e w' => (e = .returned (.bool true) ∧ SAt K w' n (smR b s A F)) ∧ Ran w w' := by
  have HH := Lib.hid H
  have HC := Lib.hid (Cursor_calls K n w _ h)
  have S0 := Lib.hid h
  have hEl := Nat.le_trans (envL_len n.s (s.V.map Prod.fst)) (by rw [List.length_map]; exact Nat.le_trans H.g.sm.V (Nat.le_trans H.c (by omega : 80000 ≤ 1000000)))
  have hll : n.s.l.length ≤ 1000000 := by have := H.p.l; omega
  obtain ⟨EL, hEL⟩ : ∃ E, E = envL n.s (s.V.map Prod.fst) := ⟨_, rfl⟩
  rw [← hEL] at hEl
  have HEL := Lib.hid hEL
  clear h H hEL
  go_enter Tryz.func32, Tryz.ntmps32
  go_wp2_with fail
  refine HC.out.mono ?_
  rintro e w1 ⟨rfl, hB1⟩
  have hS1 := (S0.out.below hB1).drew
  have R1 := Lib.hid (Below.drew (hB1.mono (Nat.zero_le _)) : Ran w w1.drew)
  have HE := Lib.hid (Environ_calls K n w1.drew _ (by have := HH.out.N; omega) HH.out.p.vok hS1)
  have Z1 := Lib.hid (sm_cells HH.out hS1.inR)
  clear HC S0 hB1 hS1
  go_upto_region 2 with fail
  go_cut [107] from 36 to 107 (fun c wx => c = .bool false ∧ SAt K wx n (smR b s A F) ∧ Ran w wx)
  case first =>
    as_aux_lemma =>
      refine region_plan (S := (fun w' => w'.cell? ⟨b, 0, none⟩ = some (.slice s.vp s.V.length s.vc) ∧ w'.cell? ⟨b, 2, none⟩ = some (.slice s.ap s.A.length s.ac) ∧ w'.cell? ⟨b, 4, none⟩ = some (.string n.s.o) ∧ w'.cell? ⟨b, 5, none⟩ = some (.slice s.gp n.s.l.length s.gc) ∧ w'.cell? ⟨b, 6, none⟩ = some (.int .i64 n.s.here) ∧ w'.cell? ⟨b, 7, none⟩ = some (.int .i64 n.s.within) ∧ w'.cell? ⟨b, 8, none⟩ = some (.int .i64 n.q))) [(0, true), (2, true), (1, false), (3, false), (4, false), (5, true), (6, true), (7, true), (9, true), (10, true), (11, true), (12, true), (8, false), (13, false), (14, true), (15, true), (16, true), (17, true), (19, true), (20, true), (21, true), (22, true), (18, false), (23, true), (24, true), (25, true), (26, true), (27, true), (28, true), (29, true), (30, true), (31, true), (32, true), (33, true), (34, true), (35, true), (36, true), (37, true), (38, true), (39, true), (40, true), (41, true), (42, true), (44, true), (45, true), (46, true), (47, true), (43, false), (48, true), (49, true), (50, true), (51, true), (54, true), (55, true), (56, true), (57, true), (58, true), (52, false), (53, true), (59, true), (60, true), (61, true), (62, true), (65, true), (66, true), (67, true), (68, true), (69, true), (63, false), (64, true), (70, true), (71, true)] (by kernel_rfl) (by kernel_rfl) (by kernel_rfl) ?_ ?_
      · ((try dsimp only); (first | done | (first | with_reducible exact Z1.out | with_reducible exact Z2.out | with_reducible exact Z3.out | with_reducible exact Z4.out | with_reducible exact Z5.out | with_reducible exact Z6.out | with_reducible exact Z7.out | with_reducible exact Z8.out | exact Z1.out | exact Z2.out | exact Z3.out | exact Z4.out | exact Z5.out | exact Z6.out | exact Z7.out | exact Z8.out)))
      simp only [planOps, List.map_cons, List.map_nil, List.append_eq, List.cons_append, List.nil_append, List.getElem?_toArray, List.getElem?_cons_zero, List.getElem?_cons_succ]
      repeat (first
        | ((refine plan_yes (v := ?_) (by rfl) ?_ ?_); rotate_left; (focus (intro w hSw; (try dsimp only at hSw); go_simp; try (with_reducible rfl))); (try simp only [Act.put, List.setIfInBounds_toArray, List.set_cons_zero, List.set_cons_succ]))
        | ((refine plan_no (by rfl) ?_); (try simp only [Act.put, List.setIfInBounds_toArray, List.set_cons_zero, List.set_cons_succ]))
        | ((refine plan_step (fun K hK => ?_)); (first | (go_simp; (first | (go_at_call 35; refine HE.out.mono ?_; rintro e w2 ⟨⟨p1, q1, ks, rfl, hks, hS2⟩, hR2⟩; rw [sm_keys HH.out hks, ← HEL.out] at hS2 ⊢; obtain ⟨X, hX1, hX2⟩ := hS2.frame; have hRn := renviron_calls b s n.s n.q c A (X * (arr 9 1 p1 EL.length q1 (EL.map sv) * F)) w2 (sm_sizes HH.out) HH.out.g (hX1.perm (by unfold smR; ac_rfl)); rw [← HEL.out] at hRn; have HR := Lib.hid hRn; have HX := Lib.hid hX2; have R2 := Lib.hid (Below.trans R1.out hR2); have Z2 := Lib.hid (sm_cells HH.out hS2.rest); clear HE hks hS2 hX1 hX2 hR2 R1 Z1 hRn) | (go_at_call 89; refine HR.out.mono ?_; rintro e w3 ⟨⟨p2, q2, rfl, hS3⟩, hR3⟩; have hS3a := HX.out w3 (arr 9 1 p2 EL.length q2 (EL.map sv) * (arr 9 1 p1 EL.length q1 (EL.map sv) * smR b s A F)) (hS3.perm (by unfold smR; ac_rfl)); have hT := texts_calls EL EL p1 p2 q1 q2 w3 (StrsAt.arr hS3a.rest.right) (StrsAt.arr hS3a.rest) (by omega) (by omega); rw [decide_self] at hT; have HT := Lib.hid hT; have S3 := Lib.hid hS3a.right.right; have R3 := Lib.hid (Below.trans R2.out hR3); have Z3 := Lib.hid (sm_cells HH.out S3.out.inR); clear HR HX hS3 hS3a hR3 R2 Z2 hT) | (go_at_call 12; refine HT.out.mono ?_; rintro e w4 ⟨rfl, hB4⟩; have hS4 := S3.out.below hB4; have R4 := Lib.hid (Below.trans R3.out (hB4.mono (Nat.zero_le _))); have HA := Lib.hid (Args_calls _ n w4 _ hll hS4); have Z4 := Lib.hid (sm_cells HH.out hS4.inR); clear HT S3 R3 hB4 hS4 Z3) | (go_at_call 11; refine HA.out.mono ?_; rintro e w5 ⟨⟨p3, q3, rfl, hS5⟩, hB5⟩; have hT := texts_calls n.s.l n.s.l p3 s.gp q3 s.gc w5 (StrsAt.arr hS5.rest) (sm_args HH.out hS5.rest) (by omega) (by omega); rw [decide_self] at hT; have HT2 := Lib.hid hT; have S5 := Lib.hid hS5.right; have R5 := Lib.hid (Below.trans R4.out (hB5.mono (Nat.zero_le _))); have Z5 := Lib.hid (sm_cells HH.out hS5.rest); clear HA hS5 hB5 R4 hT Z4) | (go_at_call 12; refine HT2.out.mono ?_; rintro e w6 ⟨rfl, hB6⟩; have hS6 := S5.out.below hB6; have Z6 := Lib.hid (sm_cells HH.out hS6.inR); have HO := Lib.hid (Options_calls _ n w6 _ hS6); have HQ := Lib.hid (Status_calls _ n w6 _ hS6); have HN := Lib.hid (Names_calls _ n w6 _ (by have := HH.out.N; omega) hS6); have R6 := Lib.hid (Below.trans R5.out (hB6.mono (Nat.zero_le _))); clear HT2 S5 R5 hB6 hS6 Z5) | (go_at_call 65; refine HO.out.mono ?_; rintro e w7 ⟨rfl, rfl⟩) | (go_at_call 25; refine HQ.out.mono ?_; rintro e w7 ⟨rfl, rfl⟩) | (go_at_call 66; refine HN.out.mono ?_; rintro e w7 ⟨⟨p4, q4, ks, rfl, hks, hkl, hS7⟩, hB7⟩; have hkL : ks.length = s.V.length := (by rw [sm_keys HH.out hks, List.length_map]); rw [hkL]; have hS7r := hS7.right; have HAl := Lib.hid (Aliases_calls _ n w7 _ (by have := HH.out.N; omega) hS7r); have R7 := Lib.hid (Below.trans R6.out (hB7.mono (Nat.zero_le _))); have Z7 := Lib.hid (sm_cells HH.out hS7r.inR); clear HN hks hkl hB7 R6 hkL hS7 Z6 hS7r HO HQ) | (go_at_call 67; refine HAl.out.mono ?_; rintro e w8 ⟨⟨p5, q5, ks2, rfl, hks, hkl, hS8⟩, hB8⟩; have hkL : ks2.length = s.A.length := (by rw [sm_keysA HH.out hks, List.length_map]); rw [hkL]; have S8 := Lib.hid hS8.right; have R8 := Lib.hid (Below.trans R7.out (hB8.mono (Nat.zero_le _))); have Z8 := Lib.hid (sm_cells HH.out S8.out.inR); clear HAl hks hkl hB8 R7 hkL hS8 Z7)); (try go_wp2_with fail)) | go_simp); (refine hK.out _ _ ?_ (fun hHeld => ?_)); (focus ((try dsimp only); (first | done | (first | with_reducible exact Z1.out | with_reducible exact Z2.out | with_reducible exact Z3.out | with_reducible exact Z4.out | with_reducible exact Z5.out | with_reducible exact Z6.out | with_reducible exact Z7.out | with_reducible exact Z8.out | exact Z1.out | exact Z2.out | exact Z3.out | exact Z4.out | exact Z5.out | exact Z6.out | exact Z7.out | exact Z8.out)))); clear hK K; (try simp only [Act.put, List.setIfInBounds_toArray, List.set_cons_zero, List.set_cons_succ])))
      refine plan_done ?_
      go_wp2_with fail
      go_meet
      exact ⟨rfl, S8.out, R8.out⟩
  case rest =>
  clear R1 HE Z1
  obtain ⟨rfl, hS8, hR8⟩ := hcut
  have HN := Lib.hid (Names_calls K n _ _ (by have := HH.out.N; omega) hS8)
  have R8 := Lib.hid hR8
  clear hS8 hR8
  go_wp2_with fail
  refine HN.out.mono ?_
  rintro e w9 ⟨⟨p4, q4, ks, rfl, hks, hkl, hS9⟩, hB9⟩
  obtain rfl := sm_keys HH.out hks
  rw [List.length_map] at hS9 hkl ⊢
  have hVI : (s.V.length : Int) ≤ 1000000 := by omega
  have S9 := Lib.hid hS9
  have R9 := Lib.hid (Below.trans R8.out (hB9.mono (Nat.zero_le _)))
  clear HN hks hS9 hB9 R8 HEL hEl hll
  go_wp2_with fail
  go_loopg [10] (s.V.length) (fun (g : Nat) (iv : Value) (wr : World) => ∃ i : Nat, i + g = s.V.length ∧ iv = .int .i64 (i : Int) ∧ Below w9.heap.size w9 wr)
  case atStart => exact ⟨0, by omega, rfl, Below.refl _ _⟩
  case round =>
    obtain ⟨i, hik, rfl, hBi⟩ := hrel
    have hi0 : (0 : Int) ≤ i := by omega
    have hSi := S9.out.below hBi
    by_cases hi : i < s.V.length
    · as_aux_lemma =>
        have hlt : (i : Int) < s.V.length := by omega
        have hal := hSi.rest.arr_len
        obtain ⟨pb, po, hp⟩ := hSi.rest.arr_addr (by omega)
        subst hp
        have hq4 : (q4 : Int) ≤ 9223372036854775807 := by have := hal.2.2; unfold maxLen at this; omega
        have hq5 : (s.V.length : Int) ≤ (q4 : Int) := by have := hal.2.1; omega
        have HCi := Lib.hid (fun (W : World) (X : Hp) (hX : Sat W (X * (arr 9 1 (some ⟨pb, po, none⟩) s.V.length q4 ((s.V.map Prod.fst).map Value.string) * smR b s A F))) => (by
          have h1 := hX.perm (show _ = arr 9 1 (some ⟨pb, po, none⟩) s.V.length q4 ((s.V.map Prod.fst).map Value.string) * (X * smR b s A F) by ac_rfl)
          obtain ⟨b0, -⟩ := sm_cells HH.out h1.right
          have h2 := hX.perm (show _ = (X * (arr 9 1 (some ⟨pb, po, none⟩) s.V.length q4 ((s.V.map Prod.fst).map Value.string) * (pts b (srO s) * F))) * A by unfold smR; ac_rfl)
          obtain ⟨vb, vo, hv, r0, r1, r2, r3, r4⟩ := rd_vr HH.out.g.ok.V h2 i hi
          refine ⟨b0, ?_, vb, vo, hv, r0, r1, r2, r3, r4⟩
          rw [h1.arr_cell i (by rw [List.length_map, List.length_map]; exact hi), List.getElem_map, List.getElem_map] : W.cell? ⟨b, 0, none⟩ = some (.slice s.vp s.V.length s.vc) ∧ W.cell? ⟨pb, po + i, none⟩ = some (.string s.V[i].1) ∧ ∃ vb vo, s.vp = some ⟨vb, vo, none⟩ ∧ W.cell? ⟨vb, vo + i * 5, none⟩ = some (.string s.V[i].1) ∧ W.cell? ⟨vb, vo + i * 5 + 1, none⟩ = some (.string s.V[i].2.val) ∧ W.cell? ⟨vb, vo + i * 5 + 2, none⟩ = some (.bool s.V[i].2.set) ∧ W.cell? ⟨vb, vo + i * 5 + 3, none⟩ = some (.bool s.V[i].2.exp) ∧ W.cell? ⟨vb, vo + i * 5 + 4, none⟩ = some (.bool s.V[i].2.fix)))
        have hvl := HH.out.g.ok.V.len
        have hvt := HH.out.g.ok.V.top
        have hv4 : (s.vc : Int) ≤ 9223372036854775807 := by unfold maxLen at hvt; omega
        have hv5 : (s.V.length : Int) ≤ (s.vc : Int) := by omega
        have hzV := HH.out.g.is.V.2 s.V[i] (List.getElem_mem hi)
        have hzs := sm_sizes HH.out s.V[i] (List.getElem_mem hi)
        obtain ⟨z, hz⟩ : ∃ z, z = s.V[i] := ⟨_, rfl⟩
        rw [← hz] at HCi hzV hzs
        have hzv : n.s.var z.1 = z.2 := by unfold Pst.var; rw [hzV]; rfl
        have HVr := Var_calls K n z.1 wr _ (by unfold maxLen; omega) hSi
        rw [hzv] at HVr
        have HVr := Lib.hid HVr
        have Si := Lib.hid hSi
        have Bi := Lib.hid hBi
        have Hik := Lib.hid hik
        obtain ⟨b0, hci, vb, vo, hvp, -⟩ := HCi.out wr emp hSi.inR
        obtain ⟨zn, zv, z2, z3, z4⟩ := z
        dsimp only at HCi HVr hci
        clear hSi hBi hik hal hvl hvt hzV hzs hz hzv b0 hvp
        go_wp2_with fail
        refine HVr.out.mono ?_
        rintro e w10 ⟨rfl, hB10⟩
        have hSa := (Si.out.below hB10).alloc (VM.boxO (⟨zv, z2, z3, z4⟩ : VM.T))
        have hBa := (Below.trans Bi.out (hB10.mono Bi.out.size)).alloc (Below.trans Bi.out (hB10.mono Bi.out.size)).size (VM.boxO (⟨zv, z2, z3, z4⟩ : VM.T))
        obtain ⟨w11, hw11⟩ : ∃ w11, w11 = w10.alloc (VM.boxO (⟨zv, z2, z3, z4⟩ : VM.T)) := ⟨_, rfl⟩
        obtain ⟨x1, hx1⟩ : ∃ x1, x1 = w10.heap.size := ⟨_, rfl⟩
        rw [← hw11, ← hx1] at hSa
        rw [← hw11] at hBa
        obtain ⟨b0, hci2, vb2, vo2, hvp2, r0, r1, r2, r3, r4⟩ := HCi.out w11 _ hSa.rest
        have hSb := hSa.alloc (vrO (zn, (⟨zv, z2, z3, z4⟩ : VM.T)))
        have hBb := hBa.alloc hBa.size (vrO (zn, (⟨zv, z2, z3, z4⟩ : VM.T)))
        obtain ⟨w12, hw12⟩ : ∃ w12, w12 = w11.alloc (vrO (zn, (⟨zv, z2, z3, z4⟩ : VM.T))) := ⟨_, rfl⟩
        obtain ⟨x2, hx2⟩ : ∃ x2, x2 = w11.heap.size := ⟨_, rfl⟩
        rw [← hw12, ← hx2] at hSb
        rw [← hw12] at hBb
        obtain ⟨-, hci3, -⟩ := HCi.out w12 _ (hSb.rest.perm (show _ = (pts x2 (vrO (zn, (⟨zv, z2, z3, z4⟩ : VM.T))) * pts x1 (VM.boxO (⟨zv, z2, z3, z4⟩ : VM.T))) * _ by ac_rfl))
        obtain ⟨e0, e1, e2, e3, e4⟩ := vrO_cells hSb.rest
        obtain ⟨f0, f1, f2, f3⟩ := VM.box_cells hSb.rest.right
        dsimp only at e0 e1 e2 e3 e4 f0 f1 f2 f3 r0 r1 r2 r3 r4
        have Bb := Lib.hid hBb
        clear hSa hBa hSb hBb HVr Si hB10 HCi hci
        go_upto_region 9 with fail
        rw [← hw11, ← hx1]
        clear hw11 hx1
        rw [hvp2] at b0
        go_upto_region 10 with fail
        rw [← hw12, ← hx2]
        clear hw12 hx2 r0 r1 r2 r3 r4 b0 hci2
        go_quiet (fail)
        go_wp2_with fail
        go_roundg (gk - 1)
        case measure => have := Hik.out; omega
        case rel => exact ⟨i + 1, by have := Hik.out; omega, rfl, by first | exact Bb.out | exact below_drewN Bb.out _⟩
    · have hge : ¬ ((i : Int) < s.V.length) := by omega
      have hS10 := hSi.right
      have HAl := Lib.hid (Aliases_calls K n wr _ (by have := HH.out.N; omega) hS10)
      have R10 := Lib.hid (Below.trans R9.out (hBi.mono (Nat.zero_le _)))
      clear hik hi hSi hBi hS10 S9 R9
      go_wp2_with fail
      refine HAl.out.mono ?_
      rintro e w9 ⟨⟨p4, q4, ks, rfl, hks, hkl, hS9⟩, hB9⟩
      obtain rfl := sm_keysA HH.out hks
      rw [List.length_map] at hS9 hkl ⊢
      have hAI : (s.A.length : Int) ≤ 1000000 := by omega
      have S9 := Lib.hid hS9
      have R9 := Lib.hid (Below.trans R10.out (hB9.mono (Nat.zero_le _)))
      clear HAl hks hS9 hB9 R10
      go_wp2_with fail
      go_loopg [13] (s.A.length) (fun (g : Nat) (iv : Value) (wr : World) => ∃ i : Nat, i + g = s.A.length ∧ iv = .int .i64 (i : Int) ∧ Below w9.heap.size w9 wr)
      case atStart => exact ⟨0, by omega, rfl, Below.refl _ _⟩
      case round =>
        obtain ⟨i, hik, rfl, hBi⟩ := hrel
        have hi0 : (0 : Int) ≤ i := by omega
        have hSi := S9.out.below hBi
        by_cases hi : i < s.A.length
        · as_aux_lemma =>
            have hlt : (i : Int) < s.A.length := by omega
            have hal := hSi.rest.arr_len
            obtain ⟨pb, po, hp⟩ := hSi.rest.arr_addr (by omega)
            subst hp
            have hq4 : (q4 : Int) ≤ 9223372036854775807 := by have := hal.2.2; unfold maxLen at this; omega
            have hq5 : (s.A.length : Int) ≤ (q4 : Int) := by have := hal.2.1; omega
            have HCi := Lib.hid (fun (W : World) (X : Hp) (hX : Sat W (X * (arr 9 1 (some ⟨pb, po, none⟩) s.A.length q4 ((s.A.map Prod.fst).map Value.string) * smR b s A F))) => (by
              have h1 := hX.perm (show _ = arr 9 1 (some ⟨pb, po, none⟩) s.A.length q4 ((s.A.map Prod.fst).map Value.string) * (X * smR b s A F) by ac_rfl)
              obtain ⟨-, b2, -⟩ := sm_cells HH.out h1.right
              have h2 := hX.perm (show _ = (X * (arr 9 1 (some ⟨pb, po, none⟩) s.A.length q4 ((s.A.map Prod.fst).map Value.string) * (pts b (srO s) * F))) * A by unfold smR; ac_rfl)
              obtain ⟨vb, vo, hv, r0, r1⟩ := rd_pr HH.out.g.ok.A h2 i hi
              refine ⟨b2, ?_, vb, vo, hv, r0, r1⟩
              rw [h1.arr_cell i (by rw [List.length_map, List.length_map]; exact hi), List.getElem_map, List.getElem_map] : W.cell? ⟨b, 2, none⟩ = some (.slice s.ap s.A.length s.ac) ∧ W.cell? ⟨pb, po + i, none⟩ = some (.string s.A[i].1) ∧ ∃ vb vo, s.ap = some ⟨vb, vo, none⟩ ∧ W.cell? ⟨vb, vo + i * 2, none⟩ = some (.string s.A[i].1) ∧ W.cell? ⟨vb, vo + i * 2 + 1, none⟩ = some (.string s.A[i].2)))
            have hvl := HH.out.g.ok.A.len
            have hvt := HH.out.g.ok.A.top
            have hv4 : (s.ac : Int) ≤ 9223372036854775807 := by unfold maxLen at hvt; omega
            have hv5 : (s.A.length : Int) ≤ (s.ac : Int) := by omega
            have hzV := HH.out.g.is.A.2 s.A[i] (List.getElem_mem hi)
            have hzs := HH.out.p.A s.A[i].1 (by rw [hzV]; rfl)
            obtain ⟨z, hz⟩ : ∃ z, z = s.A[i] := ⟨_, rfl⟩
            rw [← hz] at HCi hzV hzs
            have HVr := Alias_calls K n z.1 wr _ (by unfold maxLen; omega) hSi
            rw [hzV] at HVr
            have HVr := Lib.hid HVr
            have Si := Lib.hid hSi
            have Bi := Lib.hid hBi
            have Hik := Lib.hid hik
            obtain ⟨-, hci, -⟩ := HCi.out wr emp hSi.inR
            obtain ⟨zn, zt⟩ := z
            dsimp only [Option.getD_some, Option.isSome_some] at HCi HVr hci
            clear hSi hBi hik hal hvl hvt hzV hzs hz
            go_wp2_with fail
            refine HVr.out.mono ?_
            rintro e w10 ⟨rfl, hB10⟩
            have hSa := Si.out.below hB10
            have Bb := Lib.hid (Below.trans Bi.out (hB10.mono Bi.out.size))
            obtain ⟨b2, hci2, vb2, vo2, hvp2, r0, r1⟩ := HCi.out w10 emp hSa.inR
            rw [hvp2] at b2
            clear hSa HVr Si hB10 HCi hci Bi
            go_upto_region 17 with fail
            go_quiet (fail)
            go_wp2_with fail
            go_roundg (gk - 1)
            case measure => have := Hik.out; omega
            case rel => exact ⟨i + 1, by have := Hik.out; omega, rfl, by first | exact Bb.out | exact below_drewN Bb.out _⟩
        · have hge2 : ¬ ((i : Int) < s.A.length) := by omega
          have hS10 := hSi.right.alloc tlO
          have R10 := Lib.hid (Ran.new (Below.trans R9.out (hBi.mono (Nat.zero_le _))) tlO)
          obtain ⟨w11, hw11⟩ : ∃ w11, w11 = wr.alloc tlO := ⟨_, rfl⟩
          obtain ⟨tb, htb⟩ : ∃ tb, tb = wr.heap.size := ⟨_, rfl⟩
          rw [← hw11, ← htb] at hS10
          rw [← hw11] at R10
          have S11 := Lib.hid hS10
          clear hik hi hSi hBi hS10 S9 R9
          go_upto_region 20 with fail
          rw [← hw11, ← htb]
          clear hw11 htb
          go_wp2_with fail
          go_loopg [17] (6) (fun (g : Nat) (iv : Value) (wr : World) => ∃ i : Nat, i + g = 6 ∧ iv = .int .i64 (i : Int) ∧ Below w11.heap.size w11 wr)
          case atStart => exact ⟨0, by omega, rfl, Below.refl _ _⟩
          case round =>
            obtain ⟨i, hik, rfl, hBi⟩ := hrel
            have hi0 : (0 : Int) ≤ i := by omega
            have hSi := S11.out.below hBi
            by_cases hi : i < TL.length
            · as_aux_lemma =>
                have hi6 : i < 6 := hi
                have hlt : (i : Int) < 6 := by omega
                have hci := tl_cell hSi.rest i hi
                have hts := TL_size i hi
                obtain ⟨k, hk⟩ : ∃ k, k = TL[i]'hi := ⟨_, rfl⟩
                rw [← hk] at hci hts
                have HVr := Trap_calls K n k wr _ (by unfold maxLen; omega) hSi
                have HTr := fun (W : World) (hW : SAt K W n (pts tb tlO * smR b s A F)) => rtrap_calls b s n.s.T k W (pts tb tlO * (A * F)) (by have := HH.out.g.sm.T; have := HH.out.c; omega) (pairs_bag HH.out.g.is.T) ((HH.out.g.ok.T.more (S := pts tb tlO * F)).perm (by ac_rfl)) (hW.rest.perm (by unfold smR; ac_rfl))
                obtain ⟨t, ht⟩ : ∃ t, t = (n.s.T k).getD ⟨#[]⟩ := ⟨_, rfl⟩
                obtain ⟨u, hu⟩ : ∃ u, u = (n.s.T k).isSome := ⟨_, rfl⟩
                rw [← ht, ← hu] at HVr HTr
                have HVr := Lib.hid HVr
                have HTr := Lib.hid HTr
                have Hcel := Lib.hid (fun (W : World) (hW : SAt K W n (pts tb tlO * smR b s A F)) => (by rw [hk]; exact tl_cell hW.rest i hi : W.cell? ⟨tb, i, none⟩ = some (.string k)))
                have Si := Lib.hid hSi
                have Bi := Lib.hid hBi
                have Hik := Lib.hid hik
                clear hSi hBi hik hk hts ht hu hi
                go_wp2_with fail
                refine HVr.out.mono ?_
                rintro e w10 ⟨rfl, hB10⟩
                have hSa := Si.out.below hB10
                have HTw := Lib.hid (HTr.out w10 hSa)
                have hci2 := Hcel.out w10 hSa
                have Bb := Lib.hid (Below.trans Bi.out (hB10.mono Bi.out.size))
                clear hSa HVr Si hB10 hci Bi HTr Hcel
                go_wp2_with fail
                refine HTw.out.mono ?_
                rintro e w12 ⟨rfl, rfl⟩
                go_wp2_with fail
                go_roundg (gk - 1)
                case measure => have := Hik.out; omega
                case rel => exact ⟨i + 1, by have := Hik.out; omega, rfl, by first | exact Bb.out | exact below_drewN Bb.out _⟩
            · have hge3 : ¬ ((i : Int) < 6) := by rw [TL_len] at hi; omega
              have hS12 := hSi.right
              have S12 := Lib.hid hS12
              have R12 := Lib.hid (Below.trans R10.out (hBi.mono (Nat.zero_le _)))
              clear hik hi hSi hBi hS12 S11 R10
              have hnlI : (names.length : Int) ≤ 1000 := by have := HH.out.nl; omega
              go_wp2_with fail
              go_loopg [22] (names.length) (fun (g : Nat) (iv : Value) (wz : World) => ∃ i : Nat, i + g = names.length ∧ iv = .int .i64 (i : Int) ∧ Below wr.heap.size wr wz)
              case atStart => exact ⟨0, by omega, rfl, Below.refl _ _⟩
              case round =>
                obtain ⟨i, hik, rfl, hBi⟩ := hrel
                rename_i wz _
                have hi0 : (0 : Int) ≤ i := by omega
                have hSi := S12.out.below hBi
                by_cases hi : i < names.length
                · as_aux_lemma =>
                    have hlt : (i : Int) < names.length := by omega
                    have HNm := fun (W : World) (Y : Hp) (hW : Sat W (Y * smR b s A F)) => HH.out.nm W (Y * (pts b (srO s) * A)) (hW.perm (by unfold smR; ac_rfl))
                    obtain ⟨pb, po, hpa⟩ := (HNm _ emp hSi.inR).addr hi
                    subst hpa
                    have hks := HH.out.ns names[i] (List.getElem_mem hi)
                    obtain ⟨k, hk⟩ : ∃ k, k = names[i] := ⟨_, rfl⟩
                    have HCe := Lib.hid (fun (W : World) (Y : Hp) (hW : Sat W (Y * smR b s A F)) => (by rw [hk]; exact (HNm W Y hW).at hi : W.cell? ⟨pb, po + i, none⟩ = some (.string k)))
                    rw [← hk] at hks
                    have hci := HCe.out _ emp hSi.inR
                    have HF1 := Func_calls K n k _ _ (by unfold maxLen; omega) hSi
                    have HF2 := fun (W : World) (Y : Hp) (hW : Sat W (Y * smR b s A F)) => rfunc_calls b s n.s.F k W (Y * (A * F)) (by have := HH.out.g.sm.F; have := HH.out.c; omega) HH.out.g.is.F ((HH.out.g.ok.F.more (S := Y * F)).perm (by ac_rfl)) (hW.perm (by unfold smR; ac_rfl))
                    have HG1 := fun (W : World) (Y : Hp) (hW : SAt K W n (Y * smR b s A F)) => Get_calls K n k W _ (by unfold maxLen; omega) hW
                    have HG2 := fun (W : World) (Y : Hp) (hW : Sat W (Y * smR b s A F)) => rget_calls b s n.s.V k W (Y * (A * F)) (by have := HH.out.g.sm.V; have := HH.out.c; omega) (pairs_bag HH.out.g.is.V) ((HH.out.g.ok.V.more (S := Y * F)).perm (by ac_rfl)) (hW.perm (by unfold smR; ac_rfl))
                    rw [vrG_var] at HG2
                    obtain ⟨f, hf⟩ : ∃ f, f = (n.s.F k).getD NM.zt := ⟨_, rfl⟩
                    obtain ⟨u, hu⟩ : ∃ u, u = (n.s.F k).isSome := ⟨_, rfl⟩
                    obtain ⟨v, hv⟩ : ∃ v, v = n.s.var k := ⟨_, rfl⟩
                    rw [← hf, ← hu] at HF1 HF2
                    rw [← hv] at HG1 HG2
                    have HN1 := Lib.hid (fun (W : World) => Name_calls k W (by omega))
                    have HN2 := Lib.hid (fun (W : World) => rname_calls k W (by omega))
                    obtain ⟨y, hy⟩ : ∃ y, y = isName k := ⟨_, rfl⟩
                    rw [← hy] at HN1 HN2
                    have HF1 := Lib.hid HF1
                    have HF2 := Lib.hid HF2
                    have HG1 := Lib.hid HG1
                    have HG2 := Lib.hid HG2
                    have Si := Lib.hid hSi
                    have Bi := Lib.hid hBi
                    have Hik := Lib.hid hik
                    obtain ⟨fk, fm⟩ := f
                    obtain ⟨vv, v2, v3, v4⟩ := v
                    dsimp only at HF1 HF2 HG1 HG2
                    clear hSi hBi hik hk hks hf hu hv hy hi HNm
                    go_wp2_with fail
                    refine HF1.out.mono ?_
                    rintro e w10 ⟨rfl, hB10⟩
                    have hSa := (Si.out.below hB10).alloc (noO fk fm)
                    have hBa := (Below.trans Bi.out (hB10.mono Bi.out.size)).alloc (Below.trans Bi.out (hB10.mono Bi.out.size)).size (noO fk fm)
                    obtain ⟨w11, hw11⟩ : ∃ w11, w11 = w10.alloc (noO fk fm) := ⟨_, rfl⟩
                    obtain ⟨x1, hx1⟩ : ∃ x1, x1 = w10.heap.size := ⟨_, rfl⟩
                    rw [← hw11, ← hx1] at hSa
                    rw [← hw11] at hBa
                    have hci2 := HCe.out w11 _ hSa.rest
                    have HF2w := Lib.hid (HF2.out w11 _ hSa.rest)
                    have Sa := Lib.hid hSa
                    have Ba := Lib.hid hBa
                    clear hSa hBa HF1 Si Bi hB10 hci HF2
                    go_upto_region 31 with fail
                    rw [← hw11, ← hx1]
                    clear hw11 hx1
                    go_wp2_with fail
                    refine HF2w.out.mono ?_
                    rintro e w12 ⟨rfl, hB12⟩
                    rw [show noV fk fm = .agg #[.int .i64 fk, .bool false, .string fm, .bool false, .slice none 0 0, .slice none 0 0, .slice none 0 0, .slice none 0 0, .slice none 0 0] from rfl]
                    have hSb := (Sa.out.below hB12).alloc (noO fk fm)
                    have hBb := (Below.trans Ba.out (hB12.mono Ba.out.size)).alloc (Below.trans Ba.out (hB12.mono Ba.out.size)).size (noO fk fm)
                    obtain ⟨w13, hw13⟩ : ∃ w13, w13 = w12.alloc (noO fk fm) := ⟨_, rfl⟩
                    obtain ⟨x2, hx2⟩ : ∃ x2, x2 = w12.heap.size := ⟨_, rfl⟩
                    rw [← hw13, ← hx2] at hSb
                    rw [← hw13] at hBb
                    have hSb2 : SAt K w13 n ((pts x2 (noO fk fm) * pts x1 (noO fk fm)) * smR b s A F) := hSb.perm (by ac_rfl)
                    have hci3 := HCe.out w13 _ hSb2.rest
                    have HG1w := Lib.hid (HG1.out w13 _ hSb2)
                    have Sb := Lib.hid hSb2
                    have Bb := Lib.hid hBb
                    clear hSb hSb2 hBb HF2w Sa Ba hB12 hci2 HG1
                    go_upto_region 32 with fail
                    rw [← hw13, ← hx2]
                    clear hw13 hx2
                    go_wp2_with fail
                    refine HG1w.out.mono ?_
                    rintro e w14 ⟨rfl, hB14⟩
                    have hSc := Sb.out.below hB14
                    have hci4 := HCe.out w14 _ hSc.rest
                    have HG2w := Lib.hid (HG2.out w14 _ hSc.rest)
                    have Sc := Lib.hid hSc
                    have Bc := Lib.hid (Below.trans Bb.out (hB14.mono Bb.out.size))
                    clear hSc HG1w Sb Bb hB14 hci3 HG2
                    go_wp2_with fail
                    refine HG2w.out.mono ?_
                    rintro e w15 ⟨rfl, hB15⟩
                    have hSd := (Sc.out.below hB15).drew
                    have hci5 := HCe.out w15.drew _ hSd.rest
                    obtain ⟨-, -, m2, -⟩ := noO_cells (hSd.rest.perm (show _ = pts x2 (noO fk fm) * (pts x1 (noO fk fm) * smR b s A F) by ac_rfl))
                    obtain ⟨-, -, m1, -⟩ := noO_cells (hSd.rest.perm (show _ = pts x1 (noO fk fm) * (pts x2 (noO fk fm) * smR b s A F) by ac_rfl))
                    have Bd := Lib.hid (Below.trans Bc.out (hB15.mono Bc.out.size))
                    have Hci := Lib.hid (And.intro m1 (And.intro m2 hci5))
                    clear hSd HG2w Sc Bc hB15 hci4 HCe
                    go_upto_region 34 with fail
                    refine region_plan (S := (fun w' => w'.cell? ⟨x1, 2, none⟩ = some (.string fm) ∧ w'.cell? ⟨x2, 2, none⟩ = some (.string fm) ∧ w'.cell? ⟨pb, po + i, none⟩ = some (.string k))) [(0, true), (1, true), (2, true), (3, true), (4, true), (5, true), (6, true), (7, true), (8, true), (9, true), (10, true), (11, true), (12, true), (13, true), (14, true), (15, true), (16, true), (17, true), (18, true), (19, true), (20, true), (21, true), (22, true), (23, true), (24, true), (26, true), (27, true), (28, true), (29, true), (25, false), (30, false), (31, true), (32, true)] (by kernel_rfl) (by kernel_rfl) (by kernel_rfl) ?_ ?_
                    · ((try dsimp only); (first | done | (exact Hci.out)))
                    simp only [planOps, List.map_cons, List.map_nil, List.getElem?_toArray, List.getElem?_cons_zero, List.getElem?_cons_succ]
                    repeat (first
                      | ((refine plan_yes (v := ?_) (by rfl) ?_ ?_); rotate_left; (focus (intro w hSw; (try dsimp only at hSw); go_simp; try (with_reducible rfl))); (try simp only [Act.put, List.setIfInBounds_toArray, List.set_cons_zero, List.set_cons_succ]))
                      | ((refine plan_no (by rfl) ?_); (try simp only [Act.put, List.setIfInBounds_toArray, List.set_cons_zero, List.set_cons_succ]))
                      | ((refine plan_step (fun K hK => ?_)); (first | (go_simp; (first | (go_at_call 15; refine (HN1.out _).mono ?_; rintro e w16 ⟨rfl, rfl⟩) | (go_at_call 94; refine (HN2.out _).mono ?_; rintro e w16 ⟨rfl, rfl⟩)); (try go_wp2_with fail)) | go_simp); (refine hK.out _ _ ?_ (fun hHeld => ?_)); (focus ((try dsimp only); (first | done | (exact Hci.out)))); clear hK K; (try simp only [Act.put, List.setIfInBounds_toArray, List.set_cons_zero, List.set_cons_succ])))
                    refine plan_done ?_
                    go_wp2_with fail
                    go_roundg (gk - 1)
                    case measure => have := Hik.out; omega
                    case rel => exact ⟨i + 1, by have := Hik.out; omega, rfl, by first | exact Bd.out | exact below_drewN Bd.out _ | exact below_drewN Bd.out 1⟩
                · have hge4 : ¬ ((i : Int) < names.length) := by omega
                  have hA := Lib.hid (And.intro hSi (Below.trans R12.out (hBi.mono (Nat.zero_le _))))
                  clear hik hi hSi hBi S12 R12
                  go_wp2_with fail
                  go_ret
                  exact ⟨⟨rfl, hA.out.1⟩, hA.out.2⟩
end Go.Proofs.YtlmjidandjemjaaGreatDoor.State

