/- Next walked: words; all cases joined. -/
import Derived.Test.YtlhkochpokhncaaDoorLxK
namespace Go.Proofs.YtlhkochpokhncaaDoor.Lexer
open Go.RowKit Go.Proofs.YtlhkochpokhncaaDoor Go.Proofs.YtlhkochpokhncaaDoor.Hp
set_option linter.unusedVariables false
attribute [local go_sem] Oper.semAt_some

theorem q60 (c : UInt8) : (((c.toNat : Nat) : Int) == 60) = (c == 60) := u8_lit c 60 (by decide)
theorem q62 (c : UInt8) : (((c.toNat : Nat) : Int) == 62) = (c == 62) := u8_lit c 62 (by decide)
set_option maxRecDepth 100000 in
set_option maxHeartbeats 8000000 in
theorem next_open (s : ByteArray) (i p : Nat) (w : World) (hs : (s.size : Int) ≤ 4096) (hi : i ≤ s.size) (hm : mayE s.size (i : Int) = 0) (R : Bytes) (hR : R = Sk ((bs s).drop i)) (hp : (p : Int) = (s.size : Int) - (R.length : Int)) (hps : p ≤ s.size) (hRp : R = (bs s).drop p) (hn0 : R ≠ []) (h92 : R ≠ [92]) (h10 : R.head? ≠ some 10) (hop : opN R = 0) (hW : Wd R = none) :
    Calls Tryd.prog 17 #[.string s, .int .i64 (i : Int)] w (NextPost ((⟨0, ⟨#[]⟩, (p : Int), 0⟩, 30)) w) := by
  have HM := Lib.hid (fun w => may_calls s i w (by omega))
  rw [hm] at HM
  have HK := fun w => skip_calls s (by unfold Small; omega) i w hi
  rw [← hR] at HK
  have HK := fun w => show Calls _ _ _ _ (fun e w' => e = .returned (.tuple #[.int .i64 ((s.size : Int) - (R.length : Int)), .bool (R != [92])]) ∧ Below w.heap.size w w') from HK w
  rw [← hp] at HK
  obtain ⟨bb, hbb⟩ : ∃ b, b = (R != [92]) := ⟨_, rfl⟩
  rw [← hbb] at HK
  have hpI : (p : Int) ≤ s.size := by omega
  have hp0 : (0 : Int) ≤ p := by omega
  have hsm : Small s := by unfold Small; omega
  have hRl : 0 < R.length := List.length_pos_iff.2 hn0
  have hb : bb = true := by rw [hbb]; rw [bne_iff_ne]; exact h92
  have hlt : p < s.size := by omega
  have hltI : (p : Int) < s.size := by omega
  have hd := bs_drop s p hlt
  have b10 : (((s[p].toNat : Nat) : Int) == 10) = false := by
    rw [q10]; rw [← hRp] at hd; rw [beq_eq_false_iff_ne]; intro e; exact h10 (by rw [hd, e]; rfl)
  obtain ⟨x, hx⟩ : ∃ x, s.extract p s.size = x := ⟨_, rfl⟩
  have hxb : R = bs x := by rw [← hx, bs_tail]; exact hRp
  have HO := fun w => op_calls x w (by rw [← hx, size_tail]; omega)
  have hon := op_ne x
  rw [← hxb] at hon HO
  obtain ⟨y0, hy0⟩ : ∃ y, y = x.extract 0 (opN R) := ⟨_, rfl⟩
  rw [← hy0] at HO hon
  rw [hop] at hon
  have hon2 : (y0.toList == []) = true := by simpa using hon
  have HW := fun w => word_calls s hsm p w hps
  rw [← hRp] at HW
  subst hb
  have HO := Lib.hid HO
  rw [hW] at HW
  have HW := Lib.hid (fun w => show Calls _ _ _ _ (NPost (-1) w) from HW w)
  clear hd h10 hxb hy0 hop hon hn0 hRl hRp hp h92 hW
  have H1 := Lib.hid ((Sat.start w).alloc (tokO 0 ⟨#[]⟩ 0 0))
  have HK := Lib.hid HK
  have Hsm := Lib.hid hsm
  clear hm hi hR hbb hsm
  go_enter Tryd.func17, Tryd.ntmps17
  go_wp2_with fail
  refine (HM.out _).mono ?_
  rintro e w1 ⟨rfl, rfl⟩
  go_wp2_with fail
  refine (HK.out _).mono ?_
  rintro e w1 ⟨rfl, hB⟩
  have H2 := H1.out.below hB
  obtain ⟨c0, c1, c2, c3, cz⟩ := tok_cells H2
  have HB := Lib.hid (show Below w.heap.size w w1 from Below.trans ((Below.refl _ w).alloc (Nat.le_refl _) _) (hB.mono (by rw [World.size_alloc]; exact Nat.le_succ _)))
  obtain ⟨rb, hrb⟩ : ∃ b, b = w.heap.size := ⟨_, rfl⟩
  rw [← hrb] at H2 c0 c1 c2 c3 cz
  rw [← hrb]
  have H2 := Lib.hid H2
  clear hB hrb H1 HK HM
  clear c0 c1 c2 c3 cz
  go_wp2_with fail
  refine (HO.out _).mono ?_
  rintro e w2 ⟨rfl, hB2⟩
  have H3 := (H2.out.alloc (tokO 0 ⟨#[]⟩ (p : Int) (p : Int))).below hB2
  obtain ⟨tb, htb⟩ : ∃ b, b = w1.heap.size := ⟨_, rfl⟩
  rw [← htb] at H3
  have R2 : Ran w w2 := Ran.below (Ran.new (HB.out.mono (Nat.zero_le _)) _) hB2
  rw [← htb]
  have H3 := Lib.hid H3
  clear htb hB2 H2 HB HO
  go_wp2_with fail
  refine (HW.out _).mono ?_
  rintro e w3 ⟨rfl, hB3⟩
  have H4 := H3.out.below hB3
  have R3 := Ran.below R2 hB3
  obtain ⟨t0, t1, t2, t3, tz⟩ := tok_cells H4
  have H4 := Lib.hid H4
  clear H3 hB3 R2 HW
  go_upto_region 9 with fail
  clear t0 t1 t2 t3 tz
  have H5 := ((H4.out.set (i := 0) (.int .i64 4)).set (i := 3) (.int .i64 (-1)))
  obtain ⟨w5, hw5⟩ : ∃ x, x = ((w3.setCell ⟨tb, 0, none⟩ (.int .i64 4)).setCell ⟨tb, 3, none⟩ (.int .i64 (-1))) := ⟨_, rfl⟩
  have R5 : Ran w w5 := by rw [hw5]; exact Ran.set (Ran.set (R3) _ _) _ _
  rw [← hw5] at H5
  rw [← hw5]
  have H5 : Sat w5 (pts tb (tokO 4 ⟨#[]⟩ (p : Int) (-1)) * (pts rb (tokO 0 ⟨#[]⟩ 0 0) * keep w)) := H5
  obtain ⟨t0, t1, t2, t3, tz⟩ := tok_cells H5
  obtain ⟨c0, c1, c2, c3, cz⟩ := tok_cells (pull1 H5)
  clear hw5
  clear H4
  go_wp2_with fail
  clear t0 t1 t2 t3 tz c0 c1 c2 c3 cz
  have H5 := pull1 H5
  have H9 := (((H5.set (i := 0) (.int .i64 0)).set (i := 1) (.string ⟨#[]⟩)).set (i := 2) (.int .i64 (p : Int))).set (i := 3) (.int .i64 0)
  obtain ⟨w9, hw9⟩ : ∃ x, x = ((((w5.setCell ⟨rb, 0, none⟩ (.int .i64 0)).setCell ⟨rb, 1, none⟩ (.string ⟨#[]⟩)).setCell ⟨rb, 2, none⟩ (.int .i64 (p : Int))).setCell ⟨rb, 3, none⟩ (.int .i64 0)) := ⟨_, rfl⟩
  rw [← hw9] at H9
  rw [← hw9]
  have R9 : Ran w w9 := by rw [hw9]; exact Ran.set (Ran.set (Ran.set (Ran.set (R5) _ _) _ _) _ _) _ _
  have H9 : Sat w9 (pts rb (tokO 0 ⟨#[]⟩ (p : Int) 0) * _) := H9
  obtain ⟨r0, r1, r2, r3, rz⟩ := tok_cells H9
  refine bodyPost_ret (v := .tuple #[tokV (⟨0, ⟨#[]⟩, (p : Int), 0⟩), .int .i64 30]) (by simp [results, Tryd.results17, go_sem, r0, r1, r2, r3]) rfl ⟨rfl, Ran.whole' R9 H9.right.right⟩
set_option maxRecDepth 100000 in
set_option maxHeartbeats 8000000 in
theorem next_word (s : ByteArray) (i p : Nat) (w : World) (hs : (s.size : Int) ≤ 4096) (hi : i ≤ s.size) (hm : mayE s.size (i : Int) = 0) (R : Bytes) (hR : R = Sk ((bs s).drop i)) (hp : (p : Int) = (s.size : Int) - (R.length : Int)) (hps : p ≤ s.size) (hRp : R = (bs s).drop p) (hn0 : R ≠ []) (h92 : R ≠ [92]) (h10 : R.head? ≠ some 10) (hop : opN R = 0) (q : Bytes) (hW : Wd R = some q) :
    Calls Tryd.prog 17 #[.string s, .int .i64 (i : Int)] w (NextPost ((⟨if (R.take (R.length - q.length)).all isDig = true ∧ (q.head? = some 60 ∨ q.head? = some 62) then 3 else 4, ⟨(R.take (R.length - q.length)).toArray⟩, (p : Int), (s.size : Int) - (q.length : Int)⟩, 0)) w) := by
  have HM := Lib.hid (fun w => may_calls s i w (by omega))
  rw [hm] at HM
  have HK := fun w => skip_calls s (by unfold Small; omega) i w hi
  rw [← hR] at HK
  have HK := fun w => show Calls _ _ _ _ (fun e w' => e = .returned (.tuple #[.int .i64 ((s.size : Int) - (R.length : Int)), .bool (R != [92])]) ∧ Below w.heap.size w w') from HK w
  rw [← hp] at HK
  obtain ⟨bb, hbb⟩ : ∃ b, b = (R != [92]) := ⟨_, rfl⟩
  rw [← hbb] at HK
  have hpI : (p : Int) ≤ s.size := by omega
  have hp0 : (0 : Int) ≤ p := by omega
  have hsm : Small s := by unfold Small; omega
  have hRl : 0 < R.length := List.length_pos_iff.2 hn0
  have hb : bb = true := by rw [hbb]; rw [bne_iff_ne]; exact h92
  have hlt : p < s.size := by omega
  have hltI : (p : Int) < s.size := by omega
  have hd := bs_drop s p hlt
  have b10 : (((s[p].toNat : Nat) : Int) == 10) = false := by
    rw [q10]; rw [← hRp] at hd; rw [beq_eq_false_iff_ne]; intro e; exact h10 (by rw [hd, e]; rfl)
  obtain ⟨x, hx⟩ : ∃ x, s.extract p s.size = x := ⟨_, rfl⟩
  have hxb : R = bs x := by rw [← hx, bs_tail]; exact hRp
  have HO := fun w => op_calls x w (by rw [← hx, size_tail]; omega)
  have hon := op_ne x
  rw [← hxb] at hon HO
  obtain ⟨y0, hy0⟩ : ∃ y, y = x.extract 0 (opN R) := ⟨_, rfl⟩
  rw [← hy0] at HO hon
  rw [hop] at hon
  have hon2 : (y0.toList == []) = true := by simpa using hon
  have HW := fun w => word_calls s hsm p w hps
  rw [← hRp] at HW
  subst hb
  have HO := Lib.hid HO
  rw [hW] at HW
  have hql := (Wd_suf hW).length_le
  have hRs : R.length = s.size - p := by rw [hRp, List.length_drop, bs_length]
  obtain ⟨st, hst⟩ : ∃ st, st = s.size - q.length := ⟨_, rfl⟩
  have hqd : q = (bs s).drop st := by
    have h3 := List.suffix_iff_eq_drop.1 ((Wd_suf hW).trans (by rw [hRp]; exact List.drop_suffix p _))
    rw [bs_length] at h3; rw [hst]; exact h3
  have hstI : (s.size : Int) - (q.length : Int) = (st : Int) := by omega
  have hstp : (p : Int) ≤ (st : Int) := by omega
  have hsts : (st : Int) ≤ s.size := by omega
  have hst1 : ((st : Int) == -1) = false := by rw [beq_eq_false_iff_ne]; omega
  rw [hstI]
  have HW := fun w => show Calls _ _ _ _ (NPost ((s.size : Int) - (q.length : Int)) w) from HW w
  rw [hstI] at HW
  have HW := Lib.hid HW
  obtain ⟨y, hy⟩ : ∃ y, s.extract p st = y := ⟨_, rfl⟩
  have hyb : bs y = R.take (R.length - q.length) := by rw [← hy, bs_extract, ← hRp]; congr 1; omega
  rw [← hyb, show (⟨(bs y).toArray⟩ : ByteArray) = y from (bs_eq rfl).symm]
  have hdg := trim_digs y
  have HT := fun w => trim_calls y digs w (by have := bs_length y; rw [hyb, List.length_take] at this; omega) (by decide) digs_ascii
  obtain ⟨z, hz⟩ : ∃ z, z = (ByteArray.mk (Lib.trimS (bs y) (bs digs)).toArray) := ⟨_, rfl⟩
  rw [← hz] at hdg HT
  have HT := Lib.hid (fun w => show Calls _ _ #[.string y, .string ⟨#[48, 49, 50, 51, 52, 53, 54, 55, 56, 57]⟩] _ _ from HT w)
  obtain ⟨ad, had⟩ : ∃ b, b = (bs y).all isDig := ⟨_, rfl⟩
  rw [← had] at hdg
  rw [← had]
  obtain ⟨kd, hkd⟩ : ∃ k : Int, k = (if ad = true ∧ (q.head? = some 60 ∨ q.head? = some 62) then 3 else 4) := ⟨_, rfl⟩
  rw [← hkd]
  have Hkd := Lib.hid hkd
  have Hqd := Lib.hid (And.intro hqd hst)
  clear hd h10 hxb hy0 hop hon hn0 hRl hRp hp h92 hW hyb hz had hkd hqd hst hstI hql
  have H1 := Lib.hid ((Sat.start w).alloc (tokO 0 ⟨#[]⟩ 0 0))
  have HK := Lib.hid HK
  have Hsm := Lib.hid hsm
  clear hm hi hR hbb hsm
  go_enter Tryd.func17, Tryd.ntmps17
  go_wp2_with fail
  refine (HM.out _).mono ?_
  rintro e w1 ⟨rfl, rfl⟩
  go_wp2_with fail
  refine (HK.out _).mono ?_
  rintro e w1 ⟨rfl, hB⟩
  have H2 := H1.out.below hB
  obtain ⟨c0, c1, c2, c3, cz⟩ := tok_cells H2
  have HB := Lib.hid (show Below w.heap.size w w1 from Below.trans ((Below.refl _ w).alloc (Nat.le_refl _) _) (hB.mono (by rw [World.size_alloc]; exact Nat.le_succ _)))
  obtain ⟨rb, hrb⟩ : ∃ b, b = w.heap.size := ⟨_, rfl⟩
  rw [← hrb] at H2 c0 c1 c2 c3 cz
  rw [← hrb]
  have H2 := Lib.hid H2
  clear hB hrb H1 HK HM
  clear c0 c1 c2 c3 cz
  go_wp2_with fail
  refine (HO.out _).mono ?_
  rintro e w2 ⟨rfl, hB2⟩
  have H3 := (H2.out.alloc (tokO 0 ⟨#[]⟩ (p : Int) (p : Int))).below hB2
  obtain ⟨tb, htb⟩ : ∃ b, b = w1.heap.size := ⟨_, rfl⟩
  rw [← htb] at H3
  have R2 : Ran w w2 := Ran.below (Ran.new (HB.out.mono (Nat.zero_le _)) _) hB2
  rw [← htb]
  have H3 := Lib.hid H3
  clear htb hB2 H2 HB HO
  go_wp2_with fail
  refine (HW.out _).mono ?_
  rintro e w3 ⟨rfl, hB3⟩
  have H4 := H3.out.below hB3
  have R3 := Ran.below R2 hB3
  obtain ⟨t0, t1, t2, t3, tz⟩ := tok_cells H4
  have H4 := Lib.hid H4
  clear H3 hB3 R2 HW
  go_upto_region 9 with fail
  clear t0 t1 t2 t3 tz
  have H5 := ((H4.out.set (i := 0) (.int .i64 4)).set (i := 3) (.int .i64 (st : Int)))
  obtain ⟨w5, hw5⟩ : ∃ x, x = ((w3.setCell ⟨tb, 0, none⟩ (.int .i64 4)).setCell ⟨tb, 3, none⟩ (.int .i64 (st : Int))) := ⟨_, rfl⟩
  have R5 : Ran w w5 := by rw [hw5]; exact Ran.set (Ran.set (R3) _ _) _ _
  rw [← hw5] at H5
  rw [← hw5]
  have H5 : Sat w5 (pts tb (tokO 4 ⟨#[]⟩ (p : Int) (st : Int)) * (pts rb (tokO 0 ⟨#[]⟩ 0 0) * keep w)) := H5
  obtain ⟨t0, t1, t2, t3, tz⟩ := tok_cells H5
  obtain ⟨c0, c1, c2, c3, cz⟩ := tok_cells (pull1 H5)
  clear hw5
  clear H4
  clear c0 c1 c2 c3 cz
  go_wp2_with fail
  refine (HT.out _).mono ?_
  rintro e w6 ⟨rfl, hB6⟩
  have H6 := H5.below hB6
  have R6 := Ran.below R5 hB6
  clear H5 R5 hB6 t0 t1 t2 t3 tz HT
  obtain ⟨t0, t1, t2, t3, tz⟩ := tok_cells H6
  have H6 := Lib.hid H6
  cases ad
  · obtain rfl : kd = 4 := by rw [Hkd.out]; exact if_neg (fun h => by cases h.1)
    clear Hkd Hqd
    go_upto_region 21 with fail
    clear t0 t1 t2 t3 tz
    have H7 := (H6.out.set (i := 1) (.string y))
    obtain ⟨w7, hw7⟩ : ∃ x, x = (w6.setCell ⟨tb, 1, none⟩ (.string y)) := ⟨_, rfl⟩
    have R7 : Ran w w7 := by rw [hw7]; exact Ran.set (R6) _ _
    rw [← hw7] at H7
    rw [← hw7]
    have H7 : Sat w7 (pts tb (tokO 4 y (p : Int) (st : Int)) * (pts rb (tokO 0 ⟨#[]⟩ 0 0) * keep w)) := H7
    obtain ⟨t0, t1, t2, t3, tz⟩ := tok_cells H7
    obtain ⟨c0, c1, c2, c3, cz⟩ := tok_cells (pull1 H7)
    clear hw7
    clear H6
    go_wp2_with fail
    clear t0 t1 t2 t3 tz c0 c1 c2 c3 cz
    have H5 := pull1 H7
    have H9 := (((H5.set (i := 0) (.int .i64 4)).set (i := 1) (.string y)).set (i := 2) (.int .i64 (p : Int))).set (i := 3) (.int .i64 (st : Int))
    obtain ⟨w9, hw9⟩ : ∃ x, x = ((((w7.setCell ⟨rb, 0, none⟩ (.int .i64 4)).setCell ⟨rb, 1, none⟩ (.string y)).setCell ⟨rb, 2, none⟩ (.int .i64 (p : Int))).setCell ⟨rb, 3, none⟩ (.int .i64 (st : Int))) := ⟨_, rfl⟩
    rw [← hw9] at H9
    rw [← hw9]
    have R9 : Ran w w9 := by rw [hw9]; exact Ran.set (Ran.set (Ran.set (Ran.set (R7) _ _) _ _) _ _) _ _
    have H9 : Sat w9 (pts rb (tokO 4 y (p : Int) (st : Int)) * _) := H9
    obtain ⟨r0, r1, r2, r3, rz⟩ := tok_cells H9
    refine bodyPost_ret (v := .tuple #[tokV (⟨4, y, (p : Int), (st : Int)⟩), .int .i64 0]) (by simp [results, Tryd.results17, go_sem, r0, r1, r2, r3]) rfl ⟨rfl, Ran.whole' R9 H9.right.right⟩
  · by_cases hse : st < s.size
    · have hseI : (st : Int) < s.size := by omega
      have hst0 : (0 : Int) ≤ st := by omega
      have hqh : q.head? = some s[st] := by rw [Hqd.out.1, bs_drop s st hse]; rfl
      by_cases c60 : s[st] = 60
      · have b60 : (((s[st].toNat : Nat) : Int) == 60) = true := by rw [q60, c60]; rfl
        obtain rfl : kd = 3 := by rw [Hkd.out]; rw [hqh, c60]; exact if_pos ⟨rfl, .inl rfl⟩
        clear Hkd Hqd
        go_upto_region 21 with fail
        clear t0 t1 t2 t3 tz
        have H7 := ((H6.out.set (i := 0) (.int .i64 3)).set (i := 1) (.string y))
        obtain ⟨w7, hw7⟩ : ∃ x, x = ((w6.setCell ⟨tb, 0, none⟩ (.int .i64 3)).setCell ⟨tb, 1, none⟩ (.string y)) := ⟨_, rfl⟩
        have R7 : Ran w w7 := by rw [hw7]; exact Ran.set (Ran.set (R6) _ _) _ _
        rw [← hw7] at H7
        rw [← hw7]
        have H7 : Sat w7 (pts tb (tokO 3 y (p : Int) (st : Int)) * (pts rb (tokO 0 ⟨#[]⟩ 0 0) * keep w)) := H7
        obtain ⟨t0, t1, t2, t3, tz⟩ := tok_cells H7
        obtain ⟨c0, c1, c2, c3, cz⟩ := tok_cells (pull1 H7)
        clear hw7
        clear H6
        go_wp2_with fail
        clear t0 t1 t2 t3 tz c0 c1 c2 c3 cz
        have H5 := pull1 H7
        have H9 := (((H5.set (i := 0) (.int .i64 3)).set (i := 1) (.string y)).set (i := 2) (.int .i64 (p : Int))).set (i := 3) (.int .i64 (st : Int))
        obtain ⟨w9, hw9⟩ : ∃ x, x = ((((w7.setCell ⟨rb, 0, none⟩ (.int .i64 3)).setCell ⟨rb, 1, none⟩ (.string y)).setCell ⟨rb, 2, none⟩ (.int .i64 (p : Int))).setCell ⟨rb, 3, none⟩ (.int .i64 (st : Int))) := ⟨_, rfl⟩
        rw [← hw9] at H9
        rw [← hw9]
        have R9 : Ran w w9 := by rw [hw9]; exact Ran.set (Ran.set (Ran.set (Ran.set (R7) _ _) _ _) _ _) _ _
        have H9 : Sat w9 (pts rb (tokO 3 y (p : Int) (st : Int)) * _) := H9
        obtain ⟨r0, r1, r2, r3, rz⟩ := tok_cells H9
        refine bodyPost_ret (v := .tuple #[tokV (⟨3, y, (p : Int), (st : Int)⟩), .int .i64 0]) (by simp [results, Tryd.results17, go_sem, r0, r1, r2, r3]) rfl ⟨rfl, Ran.whole' R9 H9.right.right⟩
      · have b60 : (((s[st].toNat : Nat) : Int) == 60) = false := by rw [q60]; exact beq_eq_false_iff_ne.2 c60
        by_cases c62 : s[st] = 62
        · have b62 : (((s[st].toNat : Nat) : Int) == 62) = true := by rw [q62, c62]; rfl
          obtain rfl : kd = 3 := by rw [Hkd.out]; rw [hqh, c62]; exact if_pos ⟨rfl, .inr rfl⟩
          clear Hkd Hqd
          go_upto_region 21 with fail
          clear t0 t1 t2 t3 tz
          have H7 := ((H6.out.set (i := 0) (.int .i64 3)).set (i := 1) (.string y))
          obtain ⟨w7, hw7⟩ : ∃ x, x = ((w6.setCell ⟨tb, 0, none⟩ (.int .i64 3)).setCell ⟨tb, 1, none⟩ (.string y)) := ⟨_, rfl⟩
          have R7 : Ran w w7 := by rw [hw7]; exact Ran.set (Ran.set (R6) _ _) _ _
          rw [← hw7] at H7
          rw [← hw7]
          have H7 : Sat w7 (pts tb (tokO 3 y (p : Int) (st : Int)) * (pts rb (tokO 0 ⟨#[]⟩ 0 0) * keep w)) := H7
          obtain ⟨t0, t1, t2, t3, tz⟩ := tok_cells H7
          obtain ⟨c0, c1, c2, c3, cz⟩ := tok_cells (pull1 H7)
          clear hw7
          clear H6
          go_wp2_with fail
          clear t0 t1 t2 t3 tz c0 c1 c2 c3 cz
          have H5 := pull1 H7
          have H9 := (((H5.set (i := 0) (.int .i64 3)).set (i := 1) (.string y)).set (i := 2) (.int .i64 (p : Int))).set (i := 3) (.int .i64 (st : Int))
          obtain ⟨w9, hw9⟩ : ∃ x, x = ((((w7.setCell ⟨rb, 0, none⟩ (.int .i64 3)).setCell ⟨rb, 1, none⟩ (.string y)).setCell ⟨rb, 2, none⟩ (.int .i64 (p : Int))).setCell ⟨rb, 3, none⟩ (.int .i64 (st : Int))) := ⟨_, rfl⟩
          rw [← hw9] at H9
          rw [← hw9]
          have R9 : Ran w w9 := by rw [hw9]; exact Ran.set (Ran.set (Ran.set (Ran.set (R7) _ _) _ _) _ _) _ _
          have H9 : Sat w9 (pts rb (tokO 3 y (p : Int) (st : Int)) * _) := H9
          obtain ⟨r0, r1, r2, r3, rz⟩ := tok_cells H9
          refine bodyPost_ret (v := .tuple #[tokV (⟨3, y, (p : Int), (st : Int)⟩), .int .i64 0]) (by simp [results, Tryd.results17, go_sem, r0, r1, r2, r3]) rfl ⟨rfl, Ran.whole' R9 H9.right.right⟩
        · have b62 : (((s[st].toNat : Nat) : Int) == 62) = false := by rw [q62]; exact beq_eq_false_iff_ne.2 c62
          obtain rfl : kd = 4 := by rw [Hkd.out]; rw [hqh]; exact if_neg (by rintro ⟨_, h | h⟩; exact c60 (Option.some.inj h); exact c62 (Option.some.inj h))
          clear Hkd Hqd
          go_upto_region 21 with fail
          clear t0 t1 t2 t3 tz
          have H7 := (H6.out.set (i := 1) (.string y))
          obtain ⟨w7, hw7⟩ : ∃ x, x = (w6.setCell ⟨tb, 1, none⟩ (.string y)) := ⟨_, rfl⟩
          have R7 : Ran w w7 := by rw [hw7]; exact Ran.set (R6) _ _
          rw [← hw7] at H7
          rw [← hw7]
          have H7 : Sat w7 (pts tb (tokO 4 y (p : Int) (st : Int)) * (pts rb (tokO 0 ⟨#[]⟩ 0 0) * keep w)) := H7
          obtain ⟨t0, t1, t2, t3, tz⟩ := tok_cells H7
          obtain ⟨c0, c1, c2, c3, cz⟩ := tok_cells (pull1 H7)
          clear hw7
          clear H6
          go_wp2_with fail
          clear t0 t1 t2 t3 tz c0 c1 c2 c3 cz
          have H5 := pull1 H7
          have H9 := (((H5.set (i := 0) (.int .i64 4)).set (i := 1) (.string y)).set (i := 2) (.int .i64 (p : Int))).set (i := 3) (.int .i64 (st : Int))
          obtain ⟨w9, hw9⟩ : ∃ x, x = ((((w7.setCell ⟨rb, 0, none⟩ (.int .i64 4)).setCell ⟨rb, 1, none⟩ (.string y)).setCell ⟨rb, 2, none⟩ (.int .i64 (p : Int))).setCell ⟨rb, 3, none⟩ (.int .i64 (st : Int))) := ⟨_, rfl⟩
          rw [← hw9] at H9
          rw [← hw9]
          have R9 : Ran w w9 := by rw [hw9]; exact Ran.set (Ran.set (Ran.set (Ran.set (R7) _ _) _ _) _ _) _ _
          have H9 : Sat w9 (pts rb (tokO 4 y (p : Int) (st : Int)) * _) := H9
          obtain ⟨r0, r1, r2, r3, rz⟩ := tok_cells H9
          refine bodyPost_ret (v := .tuple #[tokV (⟨4, y, (p : Int), (st : Int)⟩), .int .i64 0]) (by simp [results, Tryd.results17, go_sem, r0, r1, r2, r3]) rfl ⟨rfl, Ran.whole' R9 H9.right.right⟩
    · have hseI : ¬ ((st : Int) < s.size) := by omega
      have hq0 : q = [] := by rw [Hqd.out.1]; exact drop_end s st (by omega)
      obtain rfl : kd = 4 := by rw [Hkd.out]; rw [hq0]; exact if_neg (by rintro ⟨_, h | h⟩ <;> cases h)
      clear Hkd Hqd
      go_upto_region 21 with fail
      clear t0 t1 t2 t3 tz
      have H7 := (H6.out.set (i := 1) (.string y))
      obtain ⟨w7, hw7⟩ : ∃ x, x = (w6.setCell ⟨tb, 1, none⟩ (.string y)) := ⟨_, rfl⟩
      have R7 : Ran w w7 := by rw [hw7]; exact Ran.set (R6) _ _
      rw [← hw7] at H7
      rw [← hw7]
      have H7 : Sat w7 (pts tb (tokO 4 y (p : Int) (st : Int)) * (pts rb (tokO 0 ⟨#[]⟩ 0 0) * keep w)) := H7
      obtain ⟨t0, t1, t2, t3, tz⟩ := tok_cells H7
      obtain ⟨c0, c1, c2, c3, cz⟩ := tok_cells (pull1 H7)
      clear hw7
      clear H6
      go_wp2_with fail
      clear t0 t1 t2 t3 tz c0 c1 c2 c3 cz
      have H5 := pull1 H7
      have H9 := (((H5.set (i := 0) (.int .i64 4)).set (i := 1) (.string y)).set (i := 2) (.int .i64 (p : Int))).set (i := 3) (.int .i64 (st : Int))
      obtain ⟨w9, hw9⟩ : ∃ x, x = ((((w7.setCell ⟨rb, 0, none⟩ (.int .i64 4)).setCell ⟨rb, 1, none⟩ (.string y)).setCell ⟨rb, 2, none⟩ (.int .i64 (p : Int))).setCell ⟨rb, 3, none⟩ (.int .i64 (st : Int))) := ⟨_, rfl⟩
      rw [← hw9] at H9
      rw [← hw9]
      have R9 : Ran w w9 := by rw [hw9]; exact Ran.set (Ran.set (Ran.set (Ran.set (R7) _ _) _ _) _ _) _ _
      have H9 : Sat w9 (pts rb (tokO 4 y (p : Int) (st : Int)) * _) := H9
      obtain ⟨r0, r1, r2, r3, rz⟩ := tok_cells H9
      refine bodyPost_ret (v := .tuple #[tokV (⟨4, y, (p : Int), (st : Int)⟩), .int .i64 0]) (by simp [results, Tryd.results17, go_sem, r0, r1, r2, r3]) rfl ⟨rfl, Ran.whole' R9 H9.right.right⟩
theorem next_calls (s : ByteArray) (a : Int) (w : World) (h63 : (s.size : Int) ≤ 9223372036854775807) :
    Calls Tryd.prog 17 #[.string s, .int .i64 a] w (NextPost (nextA s a) w) := by
  by_cases hm : mayE s.size a ≠ 0
  · exact next_bad s a w h63 hm
  · have hm0 : mayE s.size a = 0 := by omega
    obtain ⟨h1, h2, h3⟩ := mayE_ok hm0
    obtain ⟨i, rfl⟩ : ∃ i : Nat, a = (i : Int) := ⟨a.toNat, by omega⟩
    have hi : i ≤ s.size := by omega
    unfold nextA
    rw [if_neg hm, show ((i : Int)).toNat = i from rfl]
    obtain ⟨R, hR⟩ : ∃ R, R = Sk ((bs s).drop i) := ⟨_, rfl⟩
    obtain ⟨p, hp, hps0, hRp⟩ := p_of s i hR
    have hps : p ≤ s.size := by omega
    clear hps0
    unfold nextL
    rw [← hR]
    match R, hR, hp, hRp with
    | [], hR, hp, hRp =>
      have e : (s.size : Int) = (p : Int) := by rw [hp]; simp
      dsimp only
      rw [e]
      exact next_end s i p w h1 hi hm0 [] hR hp hps hRp rfl
    | c :: t, hR, hp, hRp =>
      dsimp only
      rw [← hp]
      by_cases c10 : c = 10
      · rw [if_pos c10]
        exact next_lf s i p w h1 hi hm0 (c :: t) hR hp hps hRp t (by rw [c10])
      · rw [if_neg c10]
        have h10 : (c :: t).head? ≠ some 10 := fun h => c10 (Option.some.inj h)
        by_cases hop : 0 < opN (c :: t)
        · rw [if_pos hop]
          exact next_op s i p w h1 hi hm0 (c :: t) hR hp hps hRp (by simp) h10 hop
        · rw [if_neg hop]
          have hop0 : opN (c :: t) = 0 := by omega
          by_cases h92 : c :: t = [92]
          · have hWn : Wd (c :: t) = none := by
              rw [h92, Wd_some (r := none) (by decide) (by rw [wh_cons, if_pos rfl])]; rfl
            rw [hWn]
            exact next_more s i p w h1 hi hm0 (c :: t) hR hp hps hRp h92
          · match hW : Wd (c :: t) with
            | none => exact next_open s i p w h1 hi hm0 (c :: t) hR hp hps hRp (by simp) h92 h10 hop0 hW
            | some q => exact next_word s i p w h1 hi hm0 (c :: t) hR hp hps hRp (by simp) h92 h10 hop0 q hW
end Go.Proofs.YtlhkochpokhncaaDoor.Lexer
