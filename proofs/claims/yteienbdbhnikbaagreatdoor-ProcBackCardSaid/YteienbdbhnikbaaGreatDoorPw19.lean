/- HandlesPlays, part 19 of 31: the texts PmC PmD PrK, joined by a program. -/
import Derived.Test.YteienbdbhnikbaaGreatDoorPw18
import Derived.Test.YteienbdbhnikbaaGreatDoorPw5
namespace Go.Proofs.YteienbdbhnikbaaGreatDoor.Hd
open Go.RowKit Go.Maps Go.Proofs.YteienbdbhnikbaaGreatDoor Go.Proofs.YteienbdbhnikbaaGreatDoor.Hp
set_option linter.unusedVariables false

section
variable {c : Pls} {s : Sg} {N : Nat} {w : World} {R : Hp}
theorem pool_open (p : Pp) (t : Nat) : poolHp c p t = Spill.poolX c.bp 40 3 4 (p.data.length + 0) (0 + (Spill.cl 3 4 (p.frm + p.data.length) - Spill.gn 3 4 p.frm)) (0 + 1) t := by
  unfold poolHp Pp.use
  rw [Nat.add_zero, Nat.zero_add, Nat.zero_add]
theorem m_Read (hN : N ≤ 900000) (hI : InvT N s) {id n : Int} (hid : I64 id) (hn2 : I64 n) (h : Sat w (SgHp c s * R)) :
    Calls Tryz.prog 70 #[pp c.tb, .int .i64 id, .int .i64 n] w fun e w' => (∃ (t : ByteArray) (er : Int), e = .returned (.tuple #[.string t, .int .i64 er]) ∧ er ≠ 43) ∧ Eff (N + 1) c w R (rf s.L) (xt s) w' := by
  have hni : n ≤ 9223372036854775807 := by unfold I64 at hn2; omega
  cases hy : findA s.L id with
  | none =>
    refine (TRead_none c.tb c.fb c.bp c.hm s.n s.L id n hid hy w _ (sg_tab h)).mono ?_
    rintro e w' ⟨rfl, rfl⟩
    exact ⟨⟨⟨#[]⟩, 18, rfl, by decide⟩, eff_same hI h (Below.refl 0 w)⟩
  | some y =>
    have hth := hI.th _ y hy
    have hpp := hI.pipe
    have hr := hI.refs _ y hy
    unfold ThOkG at hth
    have no : ∀ {er : Int} {e : Ending} {w' : World}, er ≠ 43 → e = .returned (.tuple #[.string ⟨#[]⟩, .int .i64 er]) ∧ Below w.heap.size w w' → (∃ (t : ByteArray) (er : Int), e = .returned (.tuple #[.string t, .int .i64 er]) ∧ er ≠ 43) ∧ Eff (N + 1) c w R (rf s.L) (xt s) w' :=
      fun he hB => ⟨⟨_, _, hB.1, he⟩, eff_same hI (h.below hB.2) (below_ran hB.2)⟩
    have same : ∀ {y' : Hn} {p' : Pp} {w' : World}, y'.refs = y.refs → (∀ j, cF j y' = cF j y) → isF y'.t = isF y.t → ThOkG s.F p' y' → p'.bb = s.p.bb → p'.eb = s.p.eb → (p'.frm + p'.data.length ≤ s.tot ∧ p'.data.length ≤ 40) → Sat w' (SgHp c ⟨s.F, updA s.L id y', s.n, p', s.tot⟩ * R) → Ran w w' → Eff (N + 1) c w R (rf s.L) (xt s) w' := by
      intro y' p' w' e1 e2 e3 e4 e5 e6 e7 S hR
      obtain ⟨hI', hx⟩ := hI.upd hy (y' := y') (by rw [e1]; omega) e2 e3 s.F p' s.tot e4 (hI.tree.more (Nat.le_succ _)) (fun _ => rfl) (kp_refl _) e5 e6 ⟨e7.1, e7.2, by omega⟩
      refine ⟨_, hI', fun k => ?_, hx, S, hR⟩
      show rf (updA s.L id y') k = rf s.L k
      rw [rf_upd hy]
      by_cases e : k = id
      · rw [if_pos e, e, rf_some hy, e1]
      · rw [if_neg e]
    cases hyt : y.t with
    | file k a m =>
      rw [hyt] at hth
      cases hm : m.r with
      | false => exact (TRead_no_file c.tb c.fb c.bp c.hm s.n s.L id y k a m hid hy hyt n hm w _ (sg_tab h)).mono fun e w' hB => no (by decide) hB
      | true =>
        by_cases hn : n < 0
        · exact (TRead_neg_file c.tb c.fb c.bp c.hm s.n s.L id y k a m hid hy hyt n hn hm w _ (sg_tab h)).mono fun e w' hB => no (by decide) hB
        · obtain ⟨q, hq⟩ : ∃ q : Nat, n = (q : Int) := ⟨n.toNat, by omega⟩
          obtain ⟨x, hx, hk2, hh⟩ := hI.node hy hyt
          have hxs := (hI.tree.each k x hx).1
          rw [hq]
          refine (TRead_file c.tb c.fb c.mb c.bp c.hm s.n s.F s.L id k y a m x q hid hy hyt hm (hI.tree.in_i64 hx) (by omega) (by omega) (hI.tree.ok (by omega)) hx (by omega) w _ (sg_open h)).mono ?_
          rintro e w' ⟨⟨rfl, S⟩, hR⟩
          refine ⟨⟨_, 0, rfl, by decide⟩, same (y' := { y with t := .file k (a + (readB x.text a q).size) m }) rfl (fun j => by unfold cF; rw [hyt]) (by rw [hyt]; rfl) ⟨hth.1, by have := read_le x.text a q; omega⟩ rfl rfl ⟨hpp.1, hpp.2.1⟩ (sg_shut ?_) hR⟩
          rw [snks_same (y' := { y with t := .file k (a + (readB x.text a q).size) m }) hy (by rw [hyt]; rfl)]
          exact S
    | text t a =>
      rw [hyt] at hth
      by_cases hn : n < 0
      · exact (TRead_neg_text c.tb c.fb c.bp c.hm s.n s.L id y t a hid hy hyt n hn w _ (sg_tab h)).mono fun e w' hB => no (by decide) hB
      · obtain ⟨q, hq⟩ : ∃ q : Nat, n = (q : Int) := ⟨n.toNat, by omega⟩
        rw [hq]
        refine (TRead_text c.tb c.fb c.bp c.hm s.n s.L id y t a q hid hy hyt hth.1 (by omega) (by omega) w _ (sg_tab h)).mono ?_
        rintro e w' ⟨⟨rfl, S⟩, hR⟩
        refine ⟨⟨_, 0, rfl, by decide⟩, same (y' := { y with t := .text t (a + (readB t a q).size) }) rfl (fun j => by unfold cF; rw [hyt]) (by rw [hyt]; rfl) ⟨by have := read_le t a q; omega, hth.2⟩ rfl rfl ⟨hpp.1, hpp.2.1⟩ (sg_shut ?_) hR⟩
        rw [snks_same (y' := { y with t := .text t (a + (readB t a q).size) }) hy (by rw [hyt]; rfl)]
        exact S.perm (by ac_rfl)
    | sink sp q cap l most => exact (TRead_no_sink c.tb c.fb c.bp c.hm s.n s.L id y sp q cap l most hid hy hyt n w _ (sg_tab h)).mono fun e w' hB => no (by decide) hB
    | reader bb eb =>
      rw [hyt] at hth
      obtain ⟨rfl, rfl⟩ := hth
      by_cases hn : n < 0
      · obtain ⟨X, HX⟩ := sg_pipe h
        exact (TRead_neg_reader c.tb c.fb c.bp c.hm s.n s.L id y s.p.bb s.p.eb c.bp s.p.frm s.p.data hid hy hyt (by omega) n hn w _ HX).mono fun e w' hB => no (by decide) hB
      · obtain ⟨q, hq⟩ : ∃ q : Nat, n = (q : Int) := ⟨n.toNat, by omega⟩
        rw [hq]
        refine (TRead_reader c.tb c.fb c.bp c.hm s.n (s.p.data.length + 0) 0 (0 + 1) s.tot s.p.frm s.L id y s.p.bb s.p.eb s.p.data q hid hy hyt (by omega) (by omega) (by omega) (by omega) (by omega) (by omega) w (fsHp c.fb c.mb s.F * (pts s.p.eb (ebO 2) * (snksHp s.L * R))) ((sg_tab h).perm (by rw [pool_open]; unfold pipeHp; ac_rfl))).mono ?_
        rintro e w' ⟨⟨rfl, S⟩, hR⟩
        obtain ⟨r, hr⟩ : ∃ r, r = min q s.p.data.length := ⟨_, rfl⟩
        rw [← hr] at S ⊢
        have hrl : r ≤ s.p.data.length := by omega
        refine ⟨⟨_, 0, rfl, by decide⟩, same (y' := y) (p' := { s.p with frm := s.p.frm + r, data := s.p.data.drop r }) rfl (fun _ => rfl) rfl (by unfold ThOkG; rw [hyt]; exact ⟨rfl, rfl⟩) rfl rfl ⟨by dsimp only; rw [List.length_drop]; omega, by dsimp only; rw [List.length_drop]; omega⟩ (sg_shut ?_) hR⟩
        rw [updA_same s.L id y hy, pool_open]
        have e9 : pipeHp c.bp { s.p with frm := s.p.frm + r, data := s.p.data.drop r } = Spill.bufX s.p.bb c.bp 3 4 (s.p.frm + r) (s.p.data.drop r) * pts s.p.eb (ebO 2) := rfl
        rw [e9]
        dsimp only
        rw [List.length_drop, show s.p.frm + r + (s.p.data.length - r) = s.p.frm + s.p.data.length by omega, show s.p.data.length - r + 0 = s.p.data.length + 0 - r by omega]
        exact S.perm (by ac_rfl)
    | writer bb eb =>
      rw [hyt] at hth
      obtain ⟨rfl, rfl⟩ := hth
      obtain ⟨X, HX⟩ := sg_pipe h
      exact (TRead_no_writer c.tb c.fb c.bp c.hm s.n s.L id y s.p.bb s.p.eb c.bp s.p.frm s.p.data hid hy hyt (by omega) n w _ HX).mono fun e w' hB => no (by decide) hB
theorem m_Write (hN : N ≤ 900000) (hI : InvT N s) {id : Int} {d : ByteArray} (hid : I64 id) (hd : d.size ≤ 100) (h : Sat w (SgHp c s * R)) :
    Calls Tryz.prog 63 #[pp c.tb, .int .i64 id, .string d] w fun e w' => (∃ er : Int, e = .returned (.int .i64 er) ∧ er ≠ 43) ∧ Eff (N + 1) c w R (rf s.L) (xt s) w' := by
  cases hy : findA s.L id with
  | none =>
    refine (TWrite_none c.tb c.fb c.bp c.hm s.n s.L id d hid hy w _ (sg_tab h)).mono ?_
    rintro e w' ⟨rfl, rfl⟩
    exact ⟨⟨18, rfl, by decide⟩, eff_same hI h (Below.refl 0 w)⟩
  | some y =>
    have hth := hI.th _ y hy
    have hpp := hI.pipe
    have hr := hI.refs _ y hy
    unfold ThOkG at hth
    have no : ∀ {er : Int} {e : Ending} {w' : World}, er ≠ 43 → e = .returned (.int .i64 er) ∧ Below w.heap.size w w' → (∃ er : Int, e = .returned (.int .i64 er) ∧ er ≠ 43) ∧ Eff (N + 1) c w R (rf s.L) (xt s) w' :=
      fun he hB => ⟨⟨_, hB.1, he⟩, eff_same hI (h.below hB.2) (below_ran hB.2)⟩
    have same : ∀ {y' : Hn} {F' : Fs} {p' : Pp} {t' : Nat} {w' : World}, y'.refs = y.refs → (∀ j, cF j y' = cF j y) → isF y'.t = isF y.t → TreeG (N + 1) F' → (∀ j, hf F' j = hf s.F j) → Kp s.F F' → ThOkG F' p' y' → p'.bb = s.p.bb → p'.eb = s.p.eb → (p'.frm + p'.data.length ≤ t' ∧ p'.data.length ≤ 40 ∧ t' ≤ 100 * (N + 1)) → Sat w' (SgHp c ⟨F', updA s.L id y', s.n, p', t'⟩ * R) → Ran w w' → Eff (N + 1) c w R (rf s.L) (xt s) w' := by
      intro y' F' p' t' w' e1 e2 e3 eT eh ek e4 e5 e6 e7 S hR
      obtain ⟨hI', hx⟩ := hI.upd hy (y' := y') (by rw [e1]; omega) e2 e3 F' p' t' e4 eT eh ek e5 e6 e7
      refine ⟨_, hI', fun k => ?_, hx, S, hR⟩
      show rf (updA s.L id y') k = rf s.L k
      rw [rf_upd hy]
      by_cases e : k = id
      · rw [if_pos e, e, rf_some hy, e1]
      · rw [if_neg e]
    have hTm := hI.tree.more (Nat.le_succ N)
    cases hyt : y.t with
    | file k a m =>
      rw [hyt] at hth
      cases hm : m.w with
      | false => exact (TWrite_no_file c.tb c.fb c.bp c.hm s.n s.L id y k a m hid hy hyt d hm w _ (sg_tab h)).mono fun e w' hB => no (by decide) hB
      | true =>
        obtain ⟨x, hx, hk2, hh⟩ := hI.node hy hyt
        have hxs := (hI.tree.each k x hx).1
        have hkn : x.kids = none := by
          rcases hI.tree.kinds k x hx with ⟨e, -⟩ | ⟨-, e⟩
          · rw [hk2] at e; cases e
          · exact e
        obtain ⟨t1, t2, t3, t4, t5⟩ := tree_write hI.tree hx (atW x a m) d
        refine (TWrite_file c.tb c.fb c.mb c.bp c.hm s.n s.F s.L id k y a m x d hid hy hyt hm (hI.tree.in_i64 hx) (by omega) (by omega) (hI.tree.ok (by omega)) hx hk2 hkn (fs_u hI) (fs_r hI) w _ (sg_open h)).mono ?_
        rintro e w' ⟨⟨rfl, S⟩, hR⟩
        refine ⟨⟨_, rfl, by omega⟩, same (y' := { y with t := .file k (atN s.F k x a m d) m }) rfl (fun j => by unfold cF; rw [hyt]) (by rw [hyt]; rfl) t1 t2 t3 ?_ rfl rfl ⟨hpp.1, hpp.2.1, by omega⟩ (sg_shut ?_) hR⟩
        · show (∃ z, find (writeP s.F k x (atW x a m) d).2.L k = some z ∧ z.kind = 2) ∧ atN s.F k x a m d ≤ 8192
          refine ⟨?_, ?_⟩
          · obtain ⟨z, hz⟩ : ∃ z, find (writeP s.F k x (atW x a m) d).2.L k = some z := hf_some (by rw [t2, hf_of hx]; exact hh)
            exact ⟨z, hz, by rw [t3 k x z hx hz]; exact hk2⟩
          · have haw : atW x a m ≤ 8192 := by unfold atW; split <;> omega
            unfold atN
            split
            · rename_i e; have := t4 e; omega
            · exact haw
        · rw [snks_same (y' := { y with t := .file k (atN s.F k x a m d) m }) hy (by rw [hyt]; rfl)]
          exact S
    | text t a => exact (TWrite_no_text c.tb c.fb c.bp c.hm s.n s.L id y t a hid hy hyt d w _ (sg_tab h)).mono fun e w' hB => no (by decide) hB
    | sink sp q cap l most =>
      rw [hyt] at hth
      obtain ⟨X, e1, e2, _⟩ := focusA (fun x : Hn => snkT x.t) s.L id y hy
      have e1' : snksHp s.L = bufHp q cap l * X := by unfold snksHp; rw [e1, hyt]; rfl
      have H2 := sg_tab h
      rw [e1'] at H2
      refine (TWrite_sink c.tb c.fb c.bp c.hm s.n s.L id y sp q cap l most d hid hy hyt hth.1 hth.2.1 hth.2.2 (by omega) w _ (H2.perm (show _ = tabHp c.tb c.fb c.bp c.hm s.L s.n * (bufHp q cap l * (fsHp c.fb c.mb s.F * (poolHp c s.p s.tot * (pipeHp c.bp s.p * (X * R))))) by ac_rfl))).mono ?_
      rintro e w' ⟨⟨rfl, sp', q', cap', hsp, S⟩, hR⟩
      refine ⟨⟨_, rfl, by unfold skE; split <;> decide⟩, same (y' := { y with t := .sink sp' q' cap' (skL l most d) most }) rfl (fun j => by unfold cF; rw [hyt]) (by rw [hyt]; rfl) hTm (fun _ => rfl) (kp_refl _) ⟨hsp, ?_, hth.2.2⟩ rfl rfl ⟨hpp.1, hpp.2.1, by omega⟩ (sg_shut ?_) hR⟩
      · unfold skL
        split
        · rw [List.length_append, bs_length]; omega
        · exact hth.2.1
      · have e2' : snksHp (updA s.L id { y with t := .sink sp' q' cap' (skL l most d) most }) = bufHp q' cap' (skL l most d) * X := e2 _
        rw [e2']
        exact S.perm (by ac_rfl)
    | reader bb eb =>
      rw [hyt] at hth
      obtain ⟨rfl, rfl⟩ := hth
      obtain ⟨X, HX⟩ := sg_pipe h
      exact (TWrite_no_reader c.tb c.fb c.bp c.hm s.n s.L id y s.p.bb s.p.eb c.bp s.p.frm s.p.data hid hy hyt (by omega) d w _ HX).mono fun e w' hB => no (by decide) hB
    | writer bb eb =>
      rw [hyt] at hth
      obtain ⟨rfl, rfl⟩ := hth
      have hbs := bs_length d
      by_cases hf : 40 < s.p.data.length + d.size
      · refine (TWrite_writer_full c.tb c.fb c.bp c.hm s.n s.p.data.length s.p.use 1 s.tot s.p.frm s.L id y s.p.bb s.p.eb s.p.data d hid hy hyt hf (by omega) (by omega) w (fsHp c.fb c.mb s.F * (pts s.p.eb (ebO 2) * (snksHp s.L * R))) ((sg_tab h).perm (by unfold poolHp pipeHp; ac_rfl))).mono ?_
        rintro e w' ⟨⟨rfl, S⟩, hR⟩
        refine ⟨⟨41, rfl, by decide⟩, eff_same hI ?_ hR⟩
        have : Sat w' (SgHp c ⟨s.F, s.L, s.n, s.p, s.tot⟩ * R) := sg_shut (by unfold poolHp pipeHp; exact S.perm (by ac_rfl))
        exact this
      · have hW := TWrite_writer c.tb c.fb c.bp c.hm s.n (s.p.data.length + 0) 0 (0 + 1) s.tot s.p.frm s.L id y s.p.bb s.p.eb s.p.data (bs d) hid hy hyt (by omega) (by omega) (by omega) (by omega) w (fsHp c.fb c.mb s.F * (pts s.p.eb (ebO 2) * (snksHp s.L * R))) ((sg_tab h).perm (by rw [pool_open]; unfold pipeHp; ac_rfl))
        rw [to_bs'] at hW
        refine hW.mono ?_
        rintro e w' ⟨⟨rfl, S⟩, hR⟩
        refine ⟨⟨0, rfl, by decide⟩, same (y' := y) (p' := { s.p with data := s.p.data ++ bs d }) (t' := s.tot + d.size) rfl (fun _ => rfl) rfl hTm (fun _ => rfl) (kp_refl _) (by unfold ThOkG; rw [hyt]; exact ⟨rfl, rfl⟩) rfl rfl ⟨by dsimp only; rw [List.length_append]; omega, by dsimp only; rw [List.length_append]; omega, by omega⟩ (sg_shut ?_) hR⟩
        rw [updA_same s.L id y hy, pool_open]
        have e9 : pipeHp c.bp { s.p with data := s.p.data ++ bs d } = Spill.bufX s.p.bb c.bp 3 4 s.p.frm (s.p.data ++ bs d) * pts s.p.eb (ebO 2) := rfl
        rw [e9]
        dsimp only
        rw [← hbs, show (s.p.data ++ bs d).length + 0 = s.p.data.length + 0 + (bs d).length by rw [List.length_append]; omega]
        exact S.perm (by ac_rfl)
/-- A file opened: a number that was free, 5 or more. -/
theorem m_File (hN : N ≤ 900000) (hI : InvT N s) (h4 : ∀ k : Int, 1 ≤ k → k ≤ 4 → 1 ≤ rf s.L k) {k : Int} {x : Nd} {m : Md} (hx : find s.F.L k = some x) (h : Sat w (SgHp c s * R)) :
    Calls Tryz.prog 62 #[pp c.tb, .int .i64 k, mdV m] w fun e w' => ∃ n er : Int, e = .returned (.tuple #[.int .i64 n, .int .i64 er]) ∧ er ≠ 43 ∧
      ((er ≠ 0 ∧ Eff (N + 1) c w R (rf s.L) (xt s) w') ∨ (er = 0 ∧ 5 ≤ n ∧ n ≤ 1000000 ∧ rf s.L n = 0 ∧ Eff (N + 1) c w R (fun j => rf s.L j + if j = n then 1 else 0) (xt s) w')) := by
  have H1 := sg_open h
  have hk := hI.tree.in_i64 hx
  have hok := hI.tree.ok (by omega : N ≤ 1000000)
  have no : ∀ {er : Int} {e : Ending} {w' : World}, er ≠ 0 → er ≠ 43 → e = .returned (.tuple #[.int .i64 0, .int .i64 er]) ∧ Below w.heap.size w w' → ∃ n er : Int, e = .returned (.tuple #[.int .i64 n, .int .i64 er]) ∧ er ≠ 43 ∧
      ((er ≠ 0 ∧ Eff (N + 1) c w R (rf s.L) (xt s) w') ∨ (er = 0 ∧ 5 ≤ n ∧ n ≤ 1000000 ∧ rf s.L n = 0 ∧ Eff (N + 1) c w R (fun j => rf s.L j + if j = n then 1 else 0) (xt s) w')) :=
    fun h0 he hB => ⟨_, _, hB.1, he, .inl ⟨h0, eff_same hI (h.below hB.2) (below_ran hB.2)⟩⟩
  have hkk : x.kind = 1 ∨ x.kind = 2 ∨ x.kind = 3 := by
    rcases hI.tree.kinds k x hx with ⟨e, -⟩ | ⟨e, -⟩
    · exact .inl e
    · exact .inr e
  rcases hkk with hk1 | hk1 | hk1
  · exact (File_dir c.tb c.fb c.mb c.bp c.hm s.n s.F s.L k m x hx hk1 hk hok w _ H1).mono fun e w' hB => no (by decide) (by decide) hB
  · by_cases hm : m.r = false ∧ m.w = false
    · exact (File_mode c.tb c.fb c.mb c.bp c.hm s.n s.F s.L k m x hx hk1 hm hk hok w _ H1).mono fun e w' hB => no (by decide) (by decide) hB
    · obtain ⟨g, hg⟩ := free_ex s.L
      have hm' : m.r = true ∨ m.w = true := by
        cases h1 : m.r <;> cases h2 : m.w <;> simp_all
      have h5 : 5 ≤ g := by
        have gp := hg.pos
        have gn := hg.none
        by_cases e : g ≤ 4
        · obtain ⟨y, hy⟩ := rf_pos (h4 (g : Int) (by omega) (by omega))
          rw [gn] at hy; cases hy
        · omega
      refine (File_calls c.tb c.fb c.mb c.bp c.hm s.n s.F s.L k m x g hk hok hx hk1 hm' hg (by have := hI.len.2; omega) w _ H1).mono ?_
      rintro e w' ⟨⟨rfl, hb, xb, S⟩, hR⟩
      obtain ⟨hI', hx'⟩ := hI.opened (hb := hb) (xb := xb) (m := m) hg h5 hx hk1 (holdP s.F k) (hI.tree.hold k) (kp_hold k) (hf_hold hx)
      have hg0 : rf s.L (g : Int) = 0 := by unfold rf; rw [hg.none]
      refine ⟨g, 0, rfl, by decide, .inr ⟨rfl, by omega, by have := hg.le; have := hI.len.1; omega, hg0, _, hI', fun j => ?_, hx', sg_shut ?_, hR⟩⟩
      · show rf (((g : Int), _) :: s.L) j = rf s.L j + if j = (g : Int) then 1 else 0
        rw [rf_cons]
        by_cases e : j = (g : Int)
        · rw [if_pos e, if_pos e, e, hg0]; rfl
        · rw [if_neg e, if_neg e]; omega
      · rw [snks_cons _ _ _ rfl]
        exact S
  · exact (File_link c.tb c.fb c.mb c.bp c.hm s.n s.F s.L k m x hx hk1 hk hok w _ H1).mono fun e w' hB => no (by decide) (by decide) hB
end
end Go.Proofs.YteienbdbhnikbaaGreatDoor.Hd

namespace Go.Proofs.YteienbdbhnikbaaGreatDoor.Hd
open Go.RowKit Go.Maps Go.Proofs.YteienbdbhnikbaaGreatDoor Go.Proofs.YteienbdbhnikbaaGreatDoor.Hp
set_option linter.unusedVariables false
attribute [local go_sem] Oper.semAt_some

set_option maxRecDepth 100000 in
/-- Cut of a link. -/
theorem Cut_link (fb mb : Nat) (F : Fs) (k : Int) (n : Nat) (x : Nd) (hk : I64 k) (hx : find F.L k = some x) (h3 : x.kind = 3) (w : World) (R : Hp) (h : Sat w (fsHp fb mb F * R)) :
    Calls Tryz.prog 80 #[pp fb, .int .i64 k, .int .i64 n] w fun e w' => e = .returned (.int .i64 1) ∧ w = w' := by
  have HT := text_calls fb mb F k hk w R h
  have hd1 : x.kind ≠ 1 := by omega
  rw [(textE_ok hx hd1).1, (textE_ok hx hd1).2] at HT
  unfold pv at HT
  have HT := Lib.hid HT
  have hxx := fs_at h hx
  rw [h3] at hxx
  obtain ⟨d0, d1, -⟩ := hxx
  clear h hx h3 hd1
  go_enter Tryz.func80, Tryz.ntmps80
  go_wp2_with fail
  refine HT.out.mono ?_
  rintro e w1 ⟨rfl, rfl⟩
  go_wp2_with fail
  go_ret
  exact ⟨rfl, rfl⟩
theorem place_err (F : Fs) (d : Int) (s : ByteArray) (k : Int) : (placeP F d s k).2.2 ≤ 21 := by
  unfold placeP placeQ
  split
  · exact last_err F d s
  split
  · show (10 : Int) ≤ 21; decide
  split
  · show (11 : Int) ≤ 21; decide
  split
  · show (11 : Int) ≤ 21; decide
  split
  · exact step_err F _ _
  split
  · show (12 : Int) ≤ 21; decide
  · show (0 : Int) ≤ 21; decide
theorem place_part (F : Fs) (d : Int) (s : ByteArray) (k : Int) : (placeP F d s k).2.1.size ≤ s.size := by
  unfold placeP placeQ
  split
  · exact Nat.zero_le _
  split
  · exact Nat.zero_le _
  split
  · exact Nat.zero_le _
  split
  · exact Nat.zero_le _
  split
  · exact Nat.zero_le _
  split
  · exact Nat.zero_le _
  · exact last_part F d s
theorem step_none {F : Fs} {d : Int} {s : ByteArray} (hs : (stepP F d s).2 = 10) (h1 : s ≠ dotB) (h2 : s ≠ dotsB) : ∃ x, find F.L d = some x ∧ x.kind = 1 ∧ kidP x s = 0 := by
  unfold stepP at hs
  cases hx : find F.L d with
  | none => rw [hx] at hs; cases hs
  | some x =>
    rw [hx] at hs
    dsimp only at hs
    by_cases hk : x.kind = 1
    · rw [if_pos hk, if_neg h1, if_neg h2] at hs
      by_cases h3 : rightB s = false
      · rw [if_pos h3] at hs; cases hs
      rw [if_neg h3] at hs
      unfold tellP at hs
      by_cases h4 : kidP x s = 0
      · exact ⟨x, rfl, hk, h4⟩
      · rw [if_neg h4] at hs; cases hs
    · rw [if_neg hk] at hs; cases hs
theorem place_ok {N : Nat} {F : Fs} (h : TreeG N F) {d : Int} {s : ByteArray} {k : Int} (hz : (placeP F d s k).2.2 = 0) :
    ∃ x kd, find F.L (placeP F d s k).1 = some x ∧ x.kind = 1 ∧ x.kids = some kd ∧ ((placeP F d s k).1 = 1 ∨ x.names = 1) ∧ kd.M (placeP F d s k).2.1 = none := by
  have hin := @TreeG.last_in N F h d s
  unfold placeP at hz ⊢
  obtain ⟨dir, hdir⟩ : ∃ x, x = (lastP F d s).1 := ⟨_, rfl⟩
  obtain ⟨part, hpart⟩ : ∃ x, x = (lastP F d s).2.1 := ⟨_, rfl⟩
  obtain ⟨st, hst⟩ : ∃ x, x = (lastP F d s).2.2.1 := ⟨_, rfl⟩
  obtain ⟨er, her⟩ : ∃ x, x = (lastP F d s).2.2.2 := ⟨_, rfl⟩
  rw [← hdir, ← hpart, ← hst, ← her] at hz ⊢
  clear hdir hpart hst her hin
  unfold placeQ at hz ⊢
  by_cases h1 : er ≠ 0
  · rw [if_pos h1] at hz; exact absurd hz h1
  rw [if_neg h1] at hz ⊢
  by_cases h2 : dir ≠ 1 ∧ namesOf F dir = 0
  · rw [if_pos h2] at hz; cases hz
  rw [if_neg h2] at hz ⊢
  by_cases h3 : part.size = 0 ∨ part = dotB ∨ part = dotsB
  · rw [if_pos h3] at hz; cases hz
  rw [if_neg h3] at hz ⊢
  by_cases h4 : (stepP F dir part).2 = 0
  · rw [if_pos h4] at hz; cases hz
  rw [if_neg h4] at hz ⊢
  by_cases h5 : (stepP F dir part).2 ≠ 10
  · rw [if_pos h5] at hz; exact absurd hz h4
  rw [if_neg h5] at hz ⊢
  by_cases h6 : st = true ∧ k ≠ 1
  · rw [if_pos h6] at hz; cases hz
  rw [if_neg h6]
  have h5 : (stepP F dir part).2 = 10 := by simpa using h5
  obtain ⟨x, hx, hk, hkid⟩ := step_none h5 (fun e => h3 (.inr (.inl e))) (fun e => h3 (.inr (.inr e)))
  obtain ⟨kd, hkd⟩ : ∃ kd, x.kids = some kd := by
    rcases h.kinds dir x hx with ⟨-, e⟩ | ⟨e, -⟩
    · exact e
    · omega
  refine ⟨x, kd, hx, hk, hkd, ?_, ?_⟩
  · by_cases e : dir = 1
    · exact .inl e
    · right
      rcases h.names dir x hx with e2 | e2
      · exact absurd ⟨e, by unfold namesOf; rw [hx]; exact e2⟩ h2
      · exact e2
  · show kd.M part = none
    unfold kidP at hkid
    rw [hkd] at hkid
    dsimp only at hkid
    cases hv : kd.M part with
    | none => rfl
    | some v =>
      rw [hv] at hkid
      have hkid : v = 0 := hkid
      obtain ⟨-, y, hy, -⟩ := h.kid dir part v ⟨x, kd, hx, hkd, hv⟩
      have := (h.rng v y hy).1
      omega
section
variable {c : Pls} {s : Sg} {N : Nat} {w : World} {R : Hp}
theorem m_Cut (hN : N ≤ 900000) (hI : InvT N s) {k : Int} {x : Nd} (hx : find s.F.L k = some x) (h1 : x.kind ≠ 1) (h : Sat w (SgHp c s * R)) :
    Calls Tryz.prog 80 #[pp c.fb, .int .i64 k, .int .i64 0] w fun e w' => (∃ er, e = .returned (.int .i64 er) ∧ er ≤ 21) ∧ ∃ s', InvT (N + 1) s' ∧ (∀ k, rf s'.L k = rf s.L k) ∧ (∀ k, xt s' k = xt s k) ∧ (∃ y, find s'.F.L k = some y) ∧ Sat w' (SgHp c s' * R) ∧ Ran w w' := by
  have hk := hI.tree.in_i64 hx
  rcases hI.tree.kinds k x hx with ⟨e, -⟩ | ⟨e | e, -⟩
  · exact absurd e h1
  · refine (Cut_calls c.fb c.mb s.F k 0 x hk (hI.tree.ok (by omega)) hx e (Nat.zero_le _) (fs_u hI) w _ (sg_open h)).mono ?_
    rintro e w' ⟨⟨rfl, S⟩, hR⟩
    obtain ⟨e1, e2, e3, e4⟩ := hI.tree.each k x hx
    have hr := hI.tree.room
    have hz : (x.text.extract 0 0).size = 0 := by rw [ByteArray.size_extract]; omega
    have hT : TreeG (N + 1) (cutP s.F k x 0) := hI.tree.put hx { x with text := x.text.extract 0 0 } _ rfl rfl rfl rfl (by dsimp only; omega) ⟨e2, by show x.holds ≤ _; omega⟩ (by dsimp only; rw [hz]; omega) (by omega)
    obtain ⟨hI', hx'⟩ := hI.same (cutP s.F k x 0) hT (kp_put hx _ _ rfl) (fun j => by
      unfold cutP
      rw [hf_put hx]
      by_cases e : j = k
      · rw [if_pos e, e, hf_of hx]
      · rw [if_neg e])
    refine ⟨⟨0, rfl, by decide⟩, _, hI', fun _ => rfl, hx', ⟨{ x with text := x.text.extract 0 0 }, ?_⟩, sg_shut S, hR⟩
    show find (upd s.F.L k _) k = _
    rw [find_upd s.F.L k k _ (by rw [hx]; rfl), if_pos rfl]
  · refine (Cut_link c.fb c.mb s.F k 0 x hk hx e w _ (sg_open h)).mono ?_
    rintro e w' ⟨rfl, rfl⟩
    exact ⟨⟨1, rfl, by decide⟩, s, hI.more (Nat.le_succ _), fun _ => rfl, fun _ => rfl, ⟨x, hx⟩, h, Below.refl 0 w⟩
theorem m_Make (hN : N ≤ 900000) (hI : InvT N s) {d : Int} (hd : I64 d) (p : ByteArray) (hp : p.size ≤ 1000000) (hG : Glob R) (h : Sat w (SgHp c s * R)) :
    Calls Tryz.prog 33 #[pp c.fb, .int .i64 d, .string p, .int .i64 2, .string ⟨#[]⟩] w fun e w' => ∃ n er s', e = .returned (.tuple #[.int .i64 n, .int .i64 er]) ∧ er ≤ 21 ∧ InvT (N + 1) s' ∧ (∀ k, rf s'.L k = rf s.L k) ∧ (∀ k, xt s' k = xt s k) ∧ (er = 0 → ∃ y, find s'.F.L n = some y) ∧ Sat w' (SgHp c s' * R) ∧ Ran w w' := by
  have HP := placeN_calls c.fb c.mb N s.F hI.tree (by omega) d p 2 w _ hd hp hG.more.more.more.more (sg_open h)
  have hpe := place_err s.F d p 2
  have hps := place_part s.F d p 2
  have hok := @place_ok N s.F hI.tree d p 2
  obtain ⟨dir, hdir⟩ : ∃ x, x = (placeP s.F d p 2).1 := ⟨_, rfl⟩
  obtain ⟨part, hpart⟩ : ∃ x, x = (placeP s.F d p 2).2.1 := ⟨_, rfl⟩
  obtain ⟨er, her⟩ : ∃ x, x = (placeP s.F d p 2).2.2 := ⟨_, rfl⟩
  rw [← hdir, ← hpart, ← her] at HP hok
  rw [← her] at hpe
  rw [← hpart] at hps
  by_cases hz : er ≠ 0
  · refine (MakeG_bad c.fb c.mb s.F d dir er p part 2 ⟨#[]⟩ (.inl rfl) (Nat.zero_le _) hz w _ HP).mono ?_
    rintro e w' ⟨⟨rfl, S⟩, hR⟩
    exact ⟨0, er, s, rfl, hpe, hI.more (Nat.le_succ _), fun _ => rfl, fun _ => rfl, fun e => absurd e hz, sg_shut S, hR⟩
  have hz : er = 0 := by simpa using hz
  subst hz
  have e0 : (((⟨#[]⟩ : ByteArray).size : Nat) : Int) = 0 := rfl
  by_cases hr : s.F.most ≤ (s.F.L.length : Int) ∨ s.F.room - s.F.used < (((⟨#[]⟩ : ByteArray).size : Nat) : Int)
  · refine (MakeG_room c.fb c.mb s.F d dir p part 2 ⟨#[]⟩ (.inl rfl) (Nat.zero_le _) hr (fs_u hI) (fs_r hI) w _ HP).mono ?_
    rintro e w' ⟨⟨rfl, S⟩, hR⟩
    exact ⟨0, 15, s, rfl, by decide, hI.more (Nat.le_succ _), fun _ => rfl, fun _ => rfl, fun e => absurd e (by decide), sg_shut S, hR⟩
  obtain ⟨x, kd, hx, hk1, hkd, hnm, hM⟩ := hok rfl
  obtain ⟨g, hg⟩ := freeN s.F.L
  have hes := (hI.tree.each dir x hx).2.2.2 kd hkd
  have hn := hI.tree.n
  refine (MakeG_calls c.fb c.mb s.F d p dir x kd part g ⟨#[]⟩ 2 (hI.tree.in_i64 hx) (by omega) (.inl rfl) ⟨hx, hk1, hkd, hM, by omega, hg, by omega, by omega, Nat.zero_le _, by omega, fs_u hI, fs_r hI⟩ w _ HP).mono ?_
  rintro e w' ⟨⟨rfl, nb, S⟩, hR⟩
  have hy : NewN dir ⟨nb, 2, ⟨#[]⟩, none, 0, 1, 0⟩ := ⟨.inr ⟨.inl rfl, rfl⟩, fun kd h => (by cases h), .inl rfl, rfl, rfl, Nat.zero_le _⟩
  have hT := hI.tree.make hN hx hk1 hkd hnm hM hg hy (by have := hI.tree.room; show s.F.used + 0 ≤ _; omega)
  obtain ⟨hI', hx'⟩ := hI.same (madeG s.F dir x kd part g ⟨nb, 2, ⟨#[]⟩, none, 0, 1, 0⟩) hT (kp_made hx hg.none) (hf_made hx hg.none rfl)
  exact ⟨g, 0, _, rfl, by decide, hI', fun _ => rfl, hx', fun _ => ⟨_, by rw [find_madeG hx, if_pos rfl]⟩, sg_shut S, hR⟩
theorem m_Remove (hN : N ≤ 900000) (hI : InvT N s) {d : Int} (hd : I64 d) (p : ByteArray) (hp : p.size ≤ 1000000) (hG : Glob R) (h : Sat w (SgHp c s * R)) :
    Calls Tryz.prog 43 #[pp c.fb, .int .i64 d, .string p] w fun e w' => (∃ er, e = .returned (.int .i64 er) ∧ er ≠ 43) ∧ Eff (N + 1) c w R (rf s.L) (xt s) w' := by
  refine (RemoveN_calls c.fb c.mb N s.F hI.tree (by omega) d p w _ hd hp hG.more.more.more.more (sg_open h)).mono ?_
  rintro e w' ⟨er, F', rfl, hr, S, hR⟩
  cases hr with
  | no _ h0 h43 => exact ⟨⟨er, rfl, h43⟩, eff_same hI (sg_shut S) hR⟩
  | ok dir x kd part n y hx hkd hM hy hno =>
    have hT := hI.tree.taken hx hkd hM hy hno
    have hf6 : find (takenF s.F dir x kd part n y).L n = some { y with names := y.names - 1, par := 0 } := by rw [find_taken hx hy, if_pos rfl]
    have hT2 := hT.sweep hf6
    obtain ⟨hI', hx'⟩ := hI.same _ (hT2.more (Nat.le_succ _)) (Kp.trans (kp_taken hx hy kd part) (kp_sweep hT.nd _ _) fun j z hz => ⟨z, sweep_in hT.nd _ _ j z hz⟩) (fun j => by rw [hf_sweep hT.nd hf6, hf_taken hx hy])
    exact ⟨⟨0, rfl, by decide⟩, _, hI', fun _ => rfl, hx', sg_shut S, hR⟩
end
end Go.Proofs.YteienbdbhnikbaaGreatDoor.Hd

namespace Go.Proofs.YteienbdbhnikbaaGreatDoor.Pr
open Go.RowKit Go.Maps Go.Proofs.YteienbdbhnikbaaGreatDoor Go.Proofs.YteienbdbhnikbaaGreatDoor.Hp Go.Proofs.YteienbdbhnikbaaGreatDoor.Hd
set_option linter.unusedVariables false

/-- A state of tree and table of which the refs, the extra holds, and one thing more are told. -/
def St (c : Pls) (N : Nat) (f g : Int → Int) (P : Sg → Prop) : Hp := ex fun s : Sg => fact (InvT N s ∧ (∀ k, rf s.L k = f k) ∧ (∀ k, xt s k = g k) ∧ P s) * SgHp c s
abbrev St0 (c : Pls) (N : Nat) (f g : Int → Int) : Hp := St c N f g fun _ => True
theorem st_out {c : Pls} {N : Nat} {f g : Int → Int} {P : Sg → Prop} {w : World} {R : Hp} (h : Sat w (St c N f g P * R)) : ∃ s, InvT N s ∧ (∀ k, rf s.L k = f k) ∧ (∀ k, xt s k = g k) ∧ P s ∧ Sat w (SgHp c s * R) := by
  unfold St at h
  obtain ⟨s, h⟩ := h.ex_out
  rw [sep_assoc] at h
  obtain ⟨⟨h1, h2, h3, h4⟩, h⟩ := h.fact_out
  exact ⟨s, h1, h2, h3, h4, h⟩
theorem st_in {c : Pls} {N : Nat} {f g : Int → Int} {P : Sg → Prop} {w : World} {R : Hp} {s : Sg} (h1 : InvT N s) (h2 : ∀ k, rf s.L k = f k) (h3 : ∀ k, xt s k = g k) (h4 : P s) (h : Sat w (SgHp c s * R)) : Sat w (St c N f g P * R) := by
  unfold St
  refine Sat.ex_in s ?_
  rw [sep_assoc]
  exact h.fact_in ⟨h1, h2, h3, h4⟩
theorem st_eff {c : Pls} {N : Nat} {f g f' g' : Int → Int} {w w' : World} {R : Hp} (h : Eff N c w R f g w') (hf : ∀ k, f k = f' k) (hg : ∀ k, g k = g' k) : Sat w' (St0 c N f' g' * R) ∧ Ran w w' := by
  obtain ⟨s, h1, h2, h3, h4, h5⟩ := h
  exact ⟨st_in h1 (fun k => (h2 k).trans (hf k)) (fun k => (h3 k).trans (hg k)) trivial h4, h5⟩
theorem st_more {c : Pls} {N M : Nat} {f g : Int → Int} {P : Sg → Prop} {w : World} {R : Hp} (hm : N ≤ M) (h : Sat w (St c N f g P * R)) : Sat w (St c M f g P * R) := by
  obtain ⟨s, h1, h2, h3, h4, h5⟩ := st_out h
  exact st_in (h1.more hm) h2 h3 h4 h5
theorem st_weak {c : Pls} {N : Nat} {f g : Int → Int} {P : Sg → Prop} {w : World} {R : Hp} (h : Sat w (St c N f g P * R)) : Sat w (St0 c N f g * R) := by
  obtain ⟨s, h1, h2, h3, h4, h5⟩ := st_out h
  exact st_in h1 h2 h3 trivial h5
/-- What a number that a slot has counts. -/
def dl (n k : Int) : Int := if k = n ∧ 1 ≤ n then 1 else 0
theorem dl0 (n k : Int) : 0 ≤ dl n k := by unfold dl; split <;> decide
theorem dl_self {n : Int} (h : 1 ≤ n) : dl n n = 1 := if_pos ⟨rfl, h⟩
def nF : List Sl → Int → Int
  | [], _ => 0
  | s :: l, k => dl s.has k + nF l k
/-- A note: the slot's number, what it was, where it lies. -/
structure Nt where
  q : Nat
  was : Sl
  sb : Nat
  wb : Nat
def nN : List Nt → Int → Int
  | [], _ => 0
  | x :: l, k => (if x.q < 16 then dl x.was.has k else 0) + nN l k
def nD : List Nt → Int → Int
  | [], _ => 0
  | x :: l, k => (if x.q = 16 ∧ k = x.was.has then 1 else 0) + nD l k
theorem nF0 : ∀ (l : List Sl) (k : Int), 0 ≤ nF l k
  | [], _ => Int.le_refl _
  | s :: l, k => by have := nF0 l k; have := dl0 s.has k; show 0 ≤ dl s.has k + nF l k; omega
theorem nN0 : ∀ (l : List Nt) (k : Int), 0 ≤ nN l k
  | [], _ => Int.le_refl _
  | x :: l, k => by
    have := nN0 l k
    have := dl0 x.was.has k
    show 0 ≤ (if x.q < 16 then dl x.was.has k else 0) + nN l k
    split <;> omega
theorem nD0 : ∀ (l : List Nt) (k : Int), 0 ≤ nD l k
  | [], _ => Int.le_refl _
  | x :: l, k => by
    have := nD0 l k
    show 0 ≤ (if x.q = 16 ∧ k = x.was.has then 1 else 0) + nD l k
    split <;> omega
theorem nF_set : ∀ (l : List Sl) (i : Nat) (hi : i < l.length) (s : Sl) (k : Int), nF (l.set i s) k = nF l k - dl l[i].has k + dl s.has k
  | [], i, hi, s, k => by simp at hi
  | x :: l, 0, hi, s, k => by
    show dl s.has k + nF l k = dl x.has k + nF l k - dl x.has k + dl s.has k
    omega
  | x :: l, i + 1, hi, s, k => by
    have := nF_set l i (by simpa using hi) s k
    show dl x.has k + nF (l.set i s) k = dl x.has k + nF l k - dl (l[i]'(by simpa using hi)).has k + dl s.has k
    omega
theorem nF_get : ∀ (l : List Sl) (i : Nat) (hi : i < l.length) (k : Int), dl l[i].has k ≤ nF l k
  | [], i, hi, k => by simp at hi
  | x :: l, 0, hi, k => by have := nF0 l k; show dl x.has k ≤ dl x.has k + nF l k; omega
  | x :: l, i + 1, hi, k => by
    have h1 := nF_get l i (by simpa using hi) k
    have h2 := dl0 x.has k
    show dl (l[i]'(by simpa using hi)).has k ≤ dl x.has k + nF l k
    omega
theorem nN_snoc : ∀ (l : List Nt) (x : Nt) (k : Int), nN (l ++ [x]) k = nN l k + if x.q < 16 then dl x.was.has k else 0
  | [], x, k => by show (if x.q < 16 then dl x.was.has k else 0) + 0 = 0 + _; omega
  | y :: l, x, k => by
    have := nN_snoc l x k
    show _ + nN (l ++ [x]) k = _ + nN l k + _
    omega
theorem nD_snoc : ∀ (l : List Nt) (x : Nt) (k : Int), nD (l ++ [x]) k = nD l k + if x.q = 16 ∧ k = x.was.has then 1 else 0
  | [], x, k => by show (if x.q = 16 ∧ k = x.was.has then 1 else 0) + 0 = 0 + _; omega
  | y :: l, x, k => by
    have := nD_snoc l x k
    show _ + nD (l ++ [x]) k = _ + nD l k + _
    omega
/-- How many refs a handle has, how often a node is held beyond its files. -/
def fOf (b : Int → Int) (p : Pc) (nl : List Nt) : Int → Int := fun k => b k + nF p.fds k + nN nl k
def gOf (p : Pc) (nl : List Nt) : Int → Int := fun k => (if k = p.dir.has then 1 else 0) + nD nl k
def noteQ (pb tx fx : Nat) (x : Nt) : Hp := if x.q < 16 then noteHp pb x.q tx x.sb x.wb x.was else if x.q = 16 then noteD pb fx x.sb x.wb x.was else noteM pb fx x.sb x.wb x.was
def notesHp (p : Pc) (nl : List Nt) : Hp := all (noteQ p.pb p.tx p.fx) nl
abbrev backs (nl : List Nt) : List Value := nl.map fun x => fBack x.sb x.wb
def LG (p : Pc) (most : Int) (nl : List Nt) (ms : List Nat) : Hp := Undo.logHp p.lb most 4 (backs nl) ms
/-- A process, its notes, its log, its tree and table. -/
def PH (c : Pls) (N : Nat) (b : Int → Int) (most : Int) (p : Pc) (nl : List Nt) (ms : List Nat) : Hp := St0 c N (fOf b p nl) (gOf p nl) * (LG p most nl ms * (notesHp p nl * pcHp p))
structure Link (c : Pls) (p : Pc) : Prop where
  fb : p.fb = c.fb
  tb : p.tb = c.tb
  len : p.fds.length = 16
/-- What is refs beyond a process's. -/
def Base (b : Int → Int) : Prop := ∀ k, 0 ≤ b k ∧ (1 ≤ k → k ≤ 4 → 1 ≤ b k)
def Pc.sl (p : Pc) (q : Nat) : Sl := if q < 16 then p.fds.getD q ⟨0, 0⟩ else if q = 16 then p.dir else p.mask
def Pc.put (p : Pc) (q : Nat) (s : Sl) : Pc := if q < 16 then p.slot q s else if q = 16 then p.dirSlot s else p.maskSlot s
theorem put_fd {p : Pc} {q : Nat} (h : q < 16) (s : Sl) : p.put q s = p.slot q s := if_pos h
theorem put_dir (p : Pc) (s : Sl) : p.put 16 s = p.dirSlot s := rfl
theorem put_mask (p : Pc) (s : Sl) : p.put 17 s = p.maskSlot s := rfl
theorem sl_fd {p : Pc} {q : Nat} (h : q < 16) (h2 : q < p.fds.length) : p.sl q = p.fds[q] := by
  unfold Pc.sl
  rw [if_pos h, List.getD_eq_getElem?_getD, List.getElem?_eq_getElem h2, Option.getD_some]
/-- What set does: at once, with a note, or not, for there is no room. -/
inductive SetR (most : Int) (q : Nat) (n : Int) (p : Pc) (nl : List Nt) (ms : List Nat) : Int → Pc → List Nt → Prop
  | now : (ms.length : Int) ≤ (p.sl q).mark → SetR most q n p nl ms 0 (p.put q ⟨n, (p.sl q).mark⟩) nl
  | full : (p.sl q).mark < (ms.length : Int) → most ≤ (nl.length : Int) → SetR most q n p nl ms 43 p nl
  | noted (sb wb : Nat) : (p.sl q).mark < (ms.length : Int) → (nl.length : Int) < most → SetR most q n p nl ms 0 (p.put q ⟨n, (ms.length : Int)⟩) (nl ++ [⟨q, p.sl q, sb, wb⟩])
section
variable {c : Pls} {N : Nat} {b : Int → Int} {most : Int} {p : Pc} {nl : List Nt} {ms : List Nat} {w : World} {R L : Hp} {f g : Int → Int} {P : Sg → Prop}
theorem t_ref (hl : Link c p) (hN : N ≤ 800000) (n : Int) (hn : 1 ≤ n → 1 ≤ f n) (W : World) (S : Hp) (h : Sat W (St c N f g P * L * (pcHp p * S))) :
    Calls Tryz.prog 49 #[.int .i64 n, pp p.tx] W fun e w' => e = .returned (.tuple #[]) ∧ (Sat w' (St0 c (N + 1) (fun k => f k + dl n k) g * L * (pcHp p * S)) ∧ Ran W w') := by
  have h1 := h.perm (show _ = pcHp p * (St c N f g P * (L * S)) by ac_rfl)
  refine fref_calls p.tx p.tb n W _ (pc_boxes h1).2 (fun h0 => ⟨?_, Below.refl 0 W⟩) fun h0 => ?_
  · have := st_more (Nat.le_succ N) (st_weak (h.perm (show _ = St c N f g P * (L * (pcHp p * S)) by ac_rfl)))
    rw [show (fun k => f k + dl n k) = f by funext k; unfold dl; rw [if_neg (by omega)]; omega]
    exact this.perm (by ac_rfl)
  · obtain ⟨s, hI, hf, hg, -, hS⟩ := st_out (h.perm (show _ = St c N f g P * (L * (pcHp p * S)) by ac_rfl))
    rw [hl.tb]
    refine (m_Ref (n := n) (by omega) hI (by rw [hf]; exact hn h0) hS).mono ?_
    rintro e w' ⟨rfl, hE⟩
    obtain ⟨h2, h3⟩ := st_eff hE (f' := fun k => f k + dl n k) (g' := g) (fun k => by rw [hf]; unfold dl; by_cases e : k = n; rw [if_pos e, if_pos ⟨e, h0⟩]; rw [if_neg e, if_neg (fun h => e h.1)]) hg
    exact ⟨_, rfl, h2.perm (by ac_rfl), h3⟩
theorem t_unref (hl : Link c p) (hN : N ≤ 800000) (n : Int) (hn : 1 ≤ n → 1 ≤ f n ∧ (f n = 1 → 5 ≤ n)) (W : World) (S : Hp) (h : Sat W (St c N f g P * L * (pcHp p * S))) :
    Calls Tryz.prog 51 #[.int .i64 n, pp p.tx] W fun e w' => e = .returned (.tuple #[]) ∧ (Sat w' (St0 c (N + 1) (fun k => f k - dl n k) g * L * (pcHp p * S)) ∧ Ran W w') := by
  have h1 := h.perm (show _ = pcHp p * (St c N f g P * (L * S)) by ac_rfl)
  refine funref_calls p.tx p.tb n W _ (pc_boxes h1).2 (fun h0 => ⟨?_, Below.refl 0 W⟩) fun h0 => ?_
  · have := st_more (Nat.le_succ N) (st_weak (h.perm (show _ = St c N f g P * (L * (pcHp p * S)) by ac_rfl)))
    rw [show (fun k => f k - dl n k) = f by funext k; unfold dl; rw [if_neg (by omega)]; omega]
    exact this.perm (by ac_rfl)
  · obtain ⟨s, hI, hf, hg, -, hS⟩ := st_out (h.perm (show _ = St c N f g P * (L * (pcHp p * S)) by ac_rfl))
    rw [hl.tb]
    refine (m_Unref (n := n) (by omega) hI (by rw [hf]; exact (hn h0).1) (by rw [hf]; exact (hn h0).2) hS).mono ?_
    rintro e w' ⟨rfl, hE⟩
    obtain ⟨h2, h3⟩ := st_eff hE (f' := fun k => f k - dl n k) (g' := g) (fun k => by rw [hf]; unfold dl; by_cases e : k = n; rw [if_pos e, if_pos ⟨e, h0⟩]; rw [if_neg e, if_neg (fun h => e h.1)]) hg
    exact ⟨_, rfl, h2.perm (by ac_rfl), h3⟩
theorem t_hold (hl : Link c p) (hN : N ≤ 800000) (n : Int) (hn : ∀ s, P s → ∃ x, Hd.find s.F.L n = some x) (W : World) (S : Hp) (h : Sat W (St c N f g P * L * (pcHp p * S))) :
    Calls Tryz.prog 45 #[.int .i64 n, pp p.fx] W fun e w' => e = .returned (.tuple #[]) ∧ (Sat w' (St0 c (N + 1) f (fun k => g k + if k = n then 1 else 0) * L * (pcHp p * S)) ∧ Ran W w') := by
  have h1 := h.perm (show _ = pcHp p * (St c N f g P * (L * S)) by ac_rfl)
  refine fhold_calls p.fx p.fb n W _ (pc_boxes h1).1 ?_
  obtain ⟨s, hI, hf, hg, hP, hS⟩ := st_out (h.perm (show _ = St c N f g P * (L * (pcHp p * S)) by ac_rfl))
  obtain ⟨x, hx⟩ := hn s hP
  rw [hl.fb]
  refine (m_Hold (by omega) hI hx hS).mono ?_
  rintro e w' ⟨⟨v, rfl⟩, hE⟩
  obtain ⟨h2, h3⟩ := st_eff hE (f' := f) (g' := fun k => g k + if k = n then 1 else 0) hf (fun k => by rw [hg])
  exact ⟨v, rfl, h2.perm (by ac_rfl), h3⟩
theorem t_drop (hl : Link c p) (hN : N ≤ 800000) (n : Int) (hn : 1 ≤ g n) (W : World) (S : Hp) (h : Sat W (St c N f g P * L * (pcHp p * S))) :
    Calls Tryz.prog 47 #[.int .i64 n, pp p.fx] W fun e w' => e = .returned (.tuple #[]) ∧ (Sat w' (St0 c (N + 1) f (fun k => g k - if k = n then 1 else 0) * L * (pcHp p * S)) ∧ Ran W w') := by
  have h1 := h.perm (show _ = pcHp p * (St c N f g P * (L * S)) by ac_rfl)
  refine fdrop_calls p.fx p.fb n W _ (pc_boxes h1).1 ?_
  obtain ⟨s, hI, hf, hg, hP, hS⟩ := st_out (h.perm (show _ = St c N f g P * (L * (pcHp p * S)) by ac_rfl))
  rw [hl.fb]
  refine (m_Drop (by omega) hI (by rw [hg]; exact hn) hS).mono ?_
  rintro e w' ⟨⟨v, rfl⟩, hE⟩
  obtain ⟨h2, h3⟩ := st_eff hE (f' := f) (g' := fun k => g k - if k = n then 1 else 0) hf (fun k => by rw [hg])
  exact ⟨v, rfl, h2.perm (by ac_rfl), h3⟩
theorem t_none (n : Int) (W : World) (S : Hp) (h : Sat W (St c N f g P * L * (pcHp p * S))) :
    Calls Tryz.prog 44 #[.int .i64 n] W fun e w' => e = .returned (.tuple #[]) ∧ (Sat w' (St0 c (N + 1) f g * L * (pcHp p * S)) ∧ Ran W w') := by
  refine (fnone_calls n W).mono ?_
  rintro e w' ⟨rfl, rfl⟩
  exact ⟨rfl, (st_more (Nat.le_succ N) (st_weak (h.perm (show _ = St c N f g P * (L * (pcHp p * S)) by ac_rfl)))).perm (by ac_rfl), Below.refl 0 W⟩
/-- The log's methods beside all else. -/
theorem t_marks (W : World) (S : Hp) (h : Sat W (St c N f g P * LG p most nl ms * S)) :
    Calls Tryz.prog 17 #[pp p.lb] W fun e w' => e = .returned (.int .i64 (ms.length : Int)) ∧ W = w' :=
  Undo.marks_calls p.lb most 4 (backs nl) ms W (St c N f g P * S) (Undo.log_out (h.perm (show _ = Undo.logHp p.lb most 4 (backs nl) ms * (St c N f g P * S) by unfold LG; ac_rfl)))
theorem t_note (hnl : nl.length ≤ 1000000) (hm4 : ms.length ≤ 4) (hm : ms ≠ []) (hl : (nl.length : Int) < most) (q : Nat) (s : Sl) (sb wb : Nat) (W : World) (S : Hp) (h : Sat W (St c N f g P * LG p most nl ms * S)) :
    Calls Tryz.prog 75 #[pp p.lb, .func (.func 76) #[] #[pp sb, pp wb]] W fun e w' => e = .returned (.int .i64 0) ∧ (Sat w' (St c N f g P * LG p most (nl ++ [⟨q, s, sb, wb⟩]) ms * S) ∧ Ran W w') := by
  have hb : (backs nl).length = nl.length := List.length_map ..
  refine (Undo.note_calls p.lb most 4 (backs nl) ms 76 #[pp sb, pp wb] W (St c N f g P * S) (Undo.log_out (h.perm (show _ = Undo.logHp p.lb most 4 (backs nl) ms * (St c N f g P * S) by unfold LG; ac_rfl))) hm (by rw [hb]; exact hl) (by rw [hb]; omega) (by omega)).mono ?_
  rintro e w' ⟨rfl, hs, hr⟩
  refine ⟨rfl, (Undo.log_in hs).perm ?_, hr⟩
  unfold LG
  rw [show backs (nl ++ [⟨q, s, sb, wb⟩]) = backs nl ++ [.func (.func 76) #[] #[pp sb, pp wb]] by rw [backs, List.map_append]; rfl]
  ac_rfl
theorem t_full (hm : ms ≠ []) (hl : most ≤ (nl.length : Int)) (sb wb : Nat) (W : World) (S : Hp) (h : Sat W (St c N f g P * LG p most nl ms * S)) :
    Calls Tryz.prog 75 #[pp p.lb, .func (.func 76) #[] #[pp sb, pp wb]] W fun e w' => e = .returned (.int .i64 43) ∧ (Sat w' (St c N f g P * LG p most nl ms * S) ∧ Ran W w') := by
  have hb : (backs nl).length = nl.length := List.length_map ..
  refine (Undo.note_full p.lb most 4 (backs nl) ms 76 #[pp sb, pp wb] W (St c N f g P * S) (Undo.log_out (h.perm (show _ = Undo.logHp p.lb most 4 (backs nl) ms * (St c N f g P * S) by unfold LG; ac_rfl))) hm (by rw [hb]; exact hl)).mono ?_
  rintro e w' ⟨rfl, hs, hr⟩
  exact ⟨rfl, (Undo.log_in hs).perm (by unfold LG; ac_rfl), hr⟩
theorem slot_has (p : Pc) (i : Nat) (n : Int) (hi : i < p.fds.length) : p.has i n = p.slot i ⟨n, p.fds[i].mark⟩ := by
  unfold Pc.has Pc.slot
  rw [List.getD_eq_getElem?_getD, List.getElem?_eq_getElem hi, Option.getD_some]
theorem f_slot {i : Nat} (hi : i < p.fds.length) (s : Sl) (k : Int) : fOf b (p.slot i s) nl k = fOf b p nl k - dl p.fds[i].has k + dl s.has k := by
  have := nF_set p.fds i hi s k
  show b k + nF (p.fds.set i s) k + nN nl k = b k + nF p.fds k + nN nl k - dl p.fds[i].has k + dl s.has k
  omega
theorem f_snoc (x : Nt) (k : Int) : fOf b p (nl ++ [x]) k = fOf b p nl k + if x.q < 16 then dl x.was.has k else 0 := by
  have := nN_snoc nl x k
  show b k + nF p.fds k + nN (nl ++ [x]) k = b k + nF p.fds k + nN nl k + _
  omega
theorem g_snoc (x : Nt) (k : Int) : gOf p (nl ++ [x]) k = gOf p nl k + if x.q = 16 ∧ k = x.was.has then 1 else 0 := by
  have := nD_snoc nl x k
  show (if k = p.dir.has then 1 else 0) + nD (nl ++ [x]) k = (if k = p.dir.has then 1 else 0) + nD nl k + _
  omega
/-- What a slot has is there. -/
theorem f_has (hb : Base b) {i : Nat} (hi : i < p.fds.length) (h1 : 1 ≤ p.fds[i].has) : 1 ≤ fOf b p nl p.fds[i].has ∧ (fOf b p nl p.fds[i].has = 1 → 5 ≤ p.fds[i].has) := by
  have h2 := nF_get p.fds i hi p.fds[i].has
  rw [dl_self h1] at h2
  have h3 := nN0 nl p.fds[i].has
  have h4 := hb p.fds[i].has
  unfold fOf
  refine ⟨by omega, fun e => ?_⟩
  by_cases h5 : p.fds[i].has ≤ 4
  · have := h4.2 h1 h5
    omega
  · omega
end
end Go.Proofs.YteienbdbhnikbaaGreatDoor.Pr

