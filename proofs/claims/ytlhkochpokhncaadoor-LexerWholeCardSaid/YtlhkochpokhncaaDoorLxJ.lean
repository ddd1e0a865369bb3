/- Next walked. -/
import Derived.Test.YtlhkochpokhncaaDoorLxI
namespace Go.Proofs.YtlhkochpokhncaaDoor.Lexer
open Go.RowKit Go.Proofs.YtlhkochpokhncaaDoor Go.Proofs.YtlhkochpokhncaaDoor.Hp
set_option linter.unusedVariables false
attribute [local go_sem] Oper.semAt_some

set_option maxRecDepth 100000 in
set_option maxHeartbeats 8000000 in
theorem next_bad (s : ByteArray) (a : Int) (w : World) (h63 : (s.size : Int) ≤ 9223372036854775807) (hm : mayE s.size a ≠ 0) :
    Calls Tryd.prog 17 #[.string s, .int .i64 a] w (NextPost (nextA s a) w) := by
  have HM := Lib.hid (fun w => may_calls s a w h63)
  unfold nextA
  rw [if_pos hm]
  obtain ⟨v, hv⟩ : ∃ v, v = mayE s.size a := ⟨_, rfl⟩
  rw [← hv] at HM hm
  rw [← hv]
  clear hv
  have H1 := (Sat.start w).alloc (tokO 0 ⟨#[]⟩ 0 0)
  obtain ⟨c0, c1, c2, c3, cz⟩ := tok_cells H1
  clear H1
  go_enter Tryd.func17, Tryd.ntmps17
  go_wp2_with fail
  refine (HM.out _).mono ?_
  rintro e w1 ⟨rfl, rfl⟩
  go_wp2_with fail
  refine bodyPost_ret (v := .tuple #[tokV tok0, .int .i64 v]) (by simp [results, Tryd.results17, go_sem, c0, c1, c2, c3, tok0]) rfl ⟨rfl, Below.alloc (Below.refl _ _) (Nat.le_refl _) _⟩
theorem pull1 {w : World} {A B R : Hp} (h : Sat w (A * (B * R))) : Sat w (B * (A * R)) := h.perm (by ac_rfl)
theorem p_of (s : ByteArray) (i : Nat) {R : Bytes} (hR : R = Sk ((bs s).drop i)) : ∃ p : Nat, (p : Int) = (s.size : Int) - (R.length : Int) ∧ p + R.length = s.size ∧ R = (bs s).drop p := by
  have h1 : R <:+ bs s := by rw [hR]; exact drop_suf s i (Sk_suf _)
  have h2 := h1.length_le
  rw [bs_length] at h2
  have h3 := List.suffix_iff_eq_drop.1 h1
  rw [bs_length] at h3
  exact ⟨s.size - R.length, by omega, by omega, h3⟩
set_option maxRecDepth 100000 in
set_option maxHeartbeats 8000000 in
theorem next_more (s : ByteArray) (i p : Nat) (w : World) (hs : (s.size : Int) ≤ 4096) (hi : i ≤ s.size) (hm : mayE s.size (i : Int) = 0) (R : Bytes) (hR : R = Sk ((bs s).drop i)) (hp : (p : Int) = (s.size : Int) - (R.length : Int)) (hps : p ≤ s.size) (hRp : R = (bs s).drop p) (hA : R = [92]) :
    Calls Tryd.prog 17 #[.string s, .int .i64 (i : Int)] w (NextPost ((⟨0, ⟨#[]⟩, (p : Int), 0⟩, 30)) w) := by
  have HM := Lib.hid (fun w => may_calls s i w (by omega))
  rw [hm] at HM
  have HK := fun w => skip_calls s (by unfold Small; omega) i w hi
  rw [← hR] at HK
  have HK := fun w => show Calls _ _ _ _ (fun e w' => e = .returned (.tuple #[.int .i64 ((s.size : Int) - (R.length : Int)), .bool (R != [92])]) ∧ Below w.heap.size w w') from HK w
  rw [← hp] at HK
  obtain ⟨bb, hbb⟩ : ∃ b, b = (R != [92]) := ⟨_, rfl⟩
  rw [← hbb] at HK
  have hpI : (p : Int) ≤ s.size := by omega
  have hp0 : (0 : Int) ≤ p := by omega
  have hsm : Small s := by unfold Small; omega
  have hb : bb = false := by rw [hbb, hA]; rfl
  subst hb
  clear hA
  have H1 := Lib.hid ((Sat.start w).alloc (tokO 0 ⟨#[]⟩ 0 0))
  have HK := Lib.hid HK
  have Hsm := Lib.hid hsm
  clear hm hi hR hp hRp hbb hsm
  go_enter Tryd.func17, Tryd.ntmps17
  go_wp2_with fail
  refine (HM.out _).mono ?_
  rintro e w1 ⟨rfl, rfl⟩
  go_wp2_with fail
  refine (HK.out _).mono ?_
  rintro e w1 ⟨rfl, hB⟩
  have H2 := H1.out.below hB
  obtain ⟨c0, c1, c2, c3, cz⟩ := tok_cells H2
  have HB := Lib.hid (show Below w.heap.size w w1 from Below.trans ((Below.refl _ w).alloc (Nat.le_refl _) _) (hB.mono (by rw [World.size_alloc]; exact Nat.le_succ _)))
  obtain ⟨rb, hrb⟩ : ∃ b, b = w.heap.size := ⟨_, rfl⟩
  rw [← hrb] at H2 c0 c1 c2 c3 cz
  rw [← hrb]
  have H2 := Lib.hid H2
  clear hB hrb H1 HK HM
  go_wp2_with fail
  clear c0 c1 c2 c3 cz
  have H9 := (((H2.out.set (i := 0) (.int .i64 0)).set (i := 1) (.string ⟨#[]⟩)).set (i := 2) (.int .i64 (p : Int))).set (i := 3) (.int .i64 0)
  obtain ⟨w9, hw9⟩ : ∃ x, x = ((((w1.setCell ⟨rb, 0, none⟩ (.int .i64 0)).setCell ⟨rb, 1, none⟩ (.string ⟨#[]⟩)).setCell ⟨rb, 2, none⟩ (.int .i64 (p : Int))).setCell ⟨rb, 3, none⟩ (.int .i64 0)) := ⟨_, rfl⟩
  rw [← hw9] at H9
  rw [← hw9]
  have R9 : Ran w w9 := by rw [hw9]; exact Ran.set (Ran.set (Ran.set (Ran.set (HB.out.mono (Nat.zero_le _)) _ _) _ _) _ _) _ _
  have H9 : Sat w9 (pts rb (tokO 0 ⟨#[]⟩ (p : Int) 0) * _) := H9
  obtain ⟨r0, r1, r2, r3, rz⟩ := tok_cells H9
  refine bodyPost_ret (v := .tuple #[tokV (⟨0, ⟨#[]⟩, (p : Int), 0⟩), .int .i64 30]) (by simp [results, Tryd.results17, go_sem, r0, r1, r2, r3]) rfl ⟨rfl, Ran.whole' R9 H9.right⟩
set_option maxRecDepth 100000 in
set_option maxHeartbeats 8000000 in
theorem next_end (s : ByteArray) (i p : Nat) (w : World) (hs : (s.size : Int) ≤ 4096) (hi : i ≤ s.size) (hm : mayE s.size (i : Int) = 0) (R : Bytes) (hR : R = Sk ((bs s).drop i)) (hp : (p : Int) = (s.size : Int) - (R.length : Int)) (hps : p ≤ s.size) (hRp : R = (bs s).drop p) (hA : R = []) :
    Calls Tryd.prog 17 #[.string s, .int .i64 (i : Int)] w (NextPost ((⟨0, ⟨#[]⟩, (p : Int), (p : Int)⟩, 0)) w) := by
  have HM := Lib.hid (fun w => may_calls s i w (by omega))
  rw [hm] at HM
  have HK := fun w => skip_calls s (by unfold Small; omega) i w hi
  rw [← hR] at HK
  have HK := fun w => show Calls _ _ _ _ (fun e w' => e = .returned (.tuple #[.int .i64 ((s.size : Int) - (R.length : Int)), .bool (R != [92])]) ∧ Below w.heap.size w w') from HK w
  rw [← hp] at HK
  obtain ⟨bb, hbb⟩ : ∃ b, b = (R != [92]) := ⟨_, rfl⟩
  rw [← hbb] at HK
  have hpI : (p : Int) ≤ s.size := by omega
  have hp0 : (0 : Int) ≤ p := by omega
  have hsm : Small s := by unfold Small; omega
  have hb : bb = true := by rw [hbb, hA]; rfl
  have hpe : p = s.size := by rw [hA] at hp; simp at hp; omega
  subst hpe
  subst hb
  clear hA
  have H1 := Lib.hid ((Sat.start w).alloc (tokO 0 ⟨#[]⟩ 0 0))
  have HK := Lib.hid HK
  have Hsm := Lib.hid hsm
  clear hm hi hR hp hRp hbb hsm
  go_enter Tryd.func17, Tryd.ntmps17
  go_wp2_with fail
  refine (HM.out _).mono ?_
  rintro e w1 ⟨rfl, rfl⟩
  go_wp2_with fail
  refine (HK.out _).mono ?_
  rintro e w1 ⟨rfl, hB⟩
  have H2 := H1.out.below hB
  obtain ⟨c0, c1, c2, c3, cz⟩ := tok_cells H2
  have HB := Lib.hid (show Below w.heap.size w w1 from Below.trans ((Below.refl _ w).alloc (Nat.le_refl _) _) (hB.mono (by rw [World.size_alloc]; exact Nat.le_succ _)))
  obtain ⟨rb, hrb⟩ : ∃ b, b = w.heap.size := ⟨_, rfl⟩
  rw [← hrb] at H2 c0 c1 c2 c3 cz
  rw [← hrb]
  have H2 := Lib.hid H2
  clear hB hrb H1 HK HM
  obtain ⟨t10, t11, t12, t13, t1z⟩ := tok_cells (H2.out.alloc (tokO 0 ⟨#[]⟩ (s.size : Int) (s.size : Int)))
  obtain ⟨u10, u11, u12, u13, u1z⟩ := tok_cells (pull1 (H2.out.alloc (tokO 0 ⟨#[]⟩ (s.size : Int) (s.size : Int))))
  clear c0 c1 c2 c3 cz
  go_wp2_with fail
  clear u10 u11 u12 u13 t10 t11 t12 t13 t1z u1z
  have H9 := ((((pull1 (H2.out.alloc (tokO 0 ⟨#[]⟩ (s.size : Int) (s.size : Int)))).set (i := 0) (.int .i64 0)).set (i := 1) (.string ⟨#[]⟩)).set (i := 2) (.int .i64 (s.size : Int))).set (i := 3) (.int .i64 (s.size : Int))
  obtain ⟨w9, hw9⟩ : ∃ x, x = (((((w1.alloc (tokO 0 ⟨#[]⟩ (s.size : Int) (s.size : Int))).setCell ⟨rb, 0, none⟩ (.int .i64 0)).setCell ⟨rb, 1, none⟩ (.string ⟨#[]⟩)).setCell ⟨rb, 2, none⟩ (.int .i64 (s.size : Int))).setCell ⟨rb, 3, none⟩ (.int .i64 (s.size : Int))) := ⟨_, rfl⟩
  rw [← hw9] at H9
  rw [← hw9]
  have R9 : Ran w w9 := by rw [hw9]; exact Ran.set (Ran.set (Ran.set (Ran.set (Ran.new (HB.out.mono (Nat.zero_le _)) _) _ _) _ _) _ _) _ _
  have H9 : Sat w9 (pts rb (tokO 0 ⟨#[]⟩ (s.size : Int) (s.size : Int)) * _) := H9
  obtain ⟨r0, r1, r2, r3, rz⟩ := tok_cells H9
  refine bodyPost_ret (v := .tuple #[tokV (⟨0, ⟨#[]⟩, (s.size : Int), (s.size : Int)⟩), .int .i64 0]) (by simp [results, Tryd.results17, go_sem, r0, r1, r2, r3]) rfl ⟨rfl, Ran.whole' R9 H9.right.right⟩
set_option maxRecDepth 100000 in
set_option maxHeartbeats 8000000 in
theorem next_lf (s : ByteArray) (i p : Nat) (w : World) (hs : (s.size : Int) ≤ 4096) (hi : i ≤ s.size) (hm : mayE s.size (i : Int) = 0) (R : Bytes) (hR : R = Sk ((bs s).drop i)) (hp : (p : Int) = (s.size : Int) - (R.length : Int)) (hps : p ≤ s.size) (hRp : R = (bs s).drop p) (t : Bytes) (hA : R = 10 :: t) :
    Calls Tryd.prog 17 #[.string s, .int .i64 (i : Int)] w (NextPost ((⟨1, ⟨#[10]⟩, (p : Int), (p : Int) + 1⟩, 0)) w) := by
  have HM := Lib.hid (fun w => may_calls s i w (by omega))
  rw [hm] at HM
  have HK := fun w => skip_calls s (by unfold Small; omega) i w hi
  rw [← hR] at HK
  have HK := fun w => show Calls _ _ _ _ (fun e w' => e = .returned (.tuple #[.int .i64 ((s.size : Int) - (R.length : Int)), .bool (R != [92])]) ∧ Below w.heap.size w w') from HK w
  rw [← hp] at HK
  obtain ⟨bb, hbb⟩ : ∃ b, b = (R != [92]) := ⟨_, rfl⟩
  rw [← hbb] at HK
  have hpI : (p : Int) ≤ s.size := by omega
  have hp0 : (0 : Int) ≤ p := by omega
  have hsm : Small s := by unfold Small; omega
  have hb : bb = true := by rw [hbb, hA]; cases t <;> rfl
  have hlt : p < s.size := by have := congrArg List.length hA; simp at this; omega
  have hltI : (p : Int) < s.size := by omega
  have hd := bs_drop s p hlt
  rw [← hRp, hA] at hd
  have b10 : (((s[p].toNat : Nat) : Int) == 10) = true := by
    rw [q10, ← (List.cons.inj hd).1]; rfl
  have hx : s.extract p (p + 1) = ⟨#[10]⟩ := bs_ext (by rw [bs_extract, ← hRp, hA, show p + 1 - p = 1 by omega]; rfl)
  subst hb
  clear hA hd
  have H1 := Lib.hid ((Sat.start w).alloc (tokO 0 ⟨#[]⟩ 0 0))
  have HK := Lib.hid HK
  have Hsm := Lib.hid hsm
  clear hm hi hR hp hRp hbb hsm
  go_enter Tryd.func17, Tryd.ntmps17
  go_wp2_with fail
  refine (HM.out _).mono ?_
  rintro e w1 ⟨rfl, rfl⟩
  go_wp2_with fail
  refine (HK.out _).mono ?_
  rintro e w1 ⟨rfl, hB⟩
  have H2 := H1.out.below hB
  obtain ⟨c0, c1, c2, c3, cz⟩ := tok_cells H2
  have HB := Lib.hid (show Below w.heap.size w w1 from Below.trans ((Below.refl _ w).alloc (Nat.le_refl _) _) (hB.mono (by rw [World.size_alloc]; exact Nat.le_succ _)))
  obtain ⟨rb, hrb⟩ : ∃ b, b = w.heap.size := ⟨_, rfl⟩
  rw [← hrb] at H2 c0 c1 c2 c3 cz
  rw [← hrb]
  have H2 := Lib.hid H2
  clear hB hrb H1 HK HM
  obtain ⟨t10, t11, t12, t13, t1z⟩ := tok_cells (H2.out.alloc (tokO 0 ⟨#[]⟩ (p : Int) (p : Int)))
  obtain ⟨u10, u11, u12, u13, u1z⟩ := tok_cells (pull1 (H2.out.alloc (tokO 0 ⟨#[]⟩ (p : Int) (p : Int))))
  obtain ⟨t20, t21, t22, t23, t2z⟩ := tok_cells (H2.out.alloc (tokO 1 ⟨#[]⟩ (p : Int) ((p : Int) + 1)))
  obtain ⟨u20, u21, u22, u23, u2z⟩ := tok_cells (pull1 (H2.out.alloc (tokO 1 ⟨#[]⟩ (p : Int) ((p : Int) + 1))))
  obtain ⟨t30, t31, t32, t33, t3z⟩ := tok_cells (H2.out.alloc (tokO 1 ⟨#[10]⟩ (p : Int) ((p : Int) + 1)))
  obtain ⟨u30, u31, u32, u33, u3z⟩ := tok_cells (pull1 (H2.out.alloc (tokO 1 ⟨#[10]⟩ (p : Int) ((p : Int) + 1))))
  clear c0 c1 c2 c3 cz
  go_wp2_with fail
  clear u10 u11 u12 u13 t10 t11 t12 t13 t1z u1z u20 u21 u22 u23 t20 t21 t22 t23 t2z u2z u30 u31 u32 u33 t30 t31 t32 t33 t3z u3z
  have H9 := ((((pull1 (H2.out.alloc (tokO 1 ⟨#[10]⟩ (p : Int) ((p : Int) + 1)))).set (i := 0) (.int .i64 1)).set (i := 1) (.string ⟨#[10]⟩)).set (i := 2) (.int .i64 (p : Int))).set (i := 3) (.int .i64 ((p : Int) + 1))
  obtain ⟨w9, hw9⟩ : ∃ x, x = (((((w1.alloc (tokO 1 ⟨#[10]⟩ (p : Int) ((p : Int) + 1))).setCell ⟨rb, 0, none⟩ (.int .i64 1)).setCell ⟨rb, 1, none⟩ (.string ⟨#[10]⟩)).setCell ⟨rb, 2, none⟩ (.int .i64 (p : Int))).setCell ⟨rb, 3, none⟩ (.int .i64 ((p : Int) + 1))) := ⟨_, rfl⟩
  rw [← hw9] at H9
  rw [← hw9]
  have R9 : Ran w w9 := by rw [hw9]; exact Ran.set (Ran.set (Ran.set (Ran.set (Ran.new (HB.out.mono (Nat.zero_le _)) _) _ _) _ _) _ _) _ _
  have H9 : Sat w9 (pts rb (tokO 1 ⟨#[10]⟩ (p : Int) ((p : Int) + 1)) * _) := H9
  obtain ⟨r0, r1, r2, r3, rz⟩ := tok_cells H9
  refine bodyPost_ret (v := .tuple #[tokV (⟨1, ⟨#[10]⟩, (p : Int), (p : Int) + 1⟩), .int .i64 0]) (by simp [results, Tryd.results17, go_sem, r0, r1, r2, r3]) rfl ⟨rfl, Ran.whole' R9 H9.right.right⟩
end Go.Proofs.YtlhkochpokhncaaDoor.Lexer
