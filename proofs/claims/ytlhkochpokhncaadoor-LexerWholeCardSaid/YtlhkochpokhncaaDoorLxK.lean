/- Next walked: ops and words. -/
import Derived.Test.YtlhkochpokhncaaDoorLxJ
namespace Go.Proofs.YtlhkochpokhncaaDoor.Lexer
open Go.RowKit Go.Proofs.YtlhkochpokhncaaDoor Go.Proofs.YtlhkochpokhncaaDoor.Hp
set_option linter.unusedVariables false
attribute [local go_sem] Oper.semAt_some

def digs : ByteArray := ⟨#[48, 49, 50, 51, 52, 53, 54, 55, 56, 57]⟩
theorem dig_has (b : UInt8) : ([48, 49, 50, 51, 52, 53, 54, 55, 56, 57] : Bytes).contains b = isDig b := by
  unfold isDig
  rw [Bool.eq_iff_iff]
  simp [UInt8.le_iff_toNat_le, ← UInt8.toNat_inj]
  omega
theorem dropW_all {α : Type} (p : α → Bool) (l : List α) : l.dropWhile p = [] ↔ l.all p = true := by
  induction l with
  | nil => simp
  | cons a l ih =>
    rw [List.dropWhile_cons, List.all_cons]
    cases h : p a
    · simp
    · simp [ih]
theorem trim_nil (l cs : Bytes) : Lib.trimS l cs = [] ↔ l.all (fun b => cs.contains b) = true := by
  unfold Lib.trimS Lib.trimLeftS Lib.trimRightS
  rw [dropW_all, List.all_reverse]
  constructor
  · intro h
    have e : l.reverse.takeWhile (fun b => cs.contains b) ++ l.reverse.dropWhile (fun b => cs.contains b) = l.reverse := List.takeWhile_append_dropWhile
    rw [← List.all_reverse, ← e, List.all_append, h, Bool.and_true]
    rw [List.all_eq_true]
    intro x hx
    exact List.all_eq_true.1 (List.all_takeWhile (p := fun b => cs.contains b)) x hx
  · intro h
    have : l.reverse.dropWhile (fun b => cs.contains b) = [] := (dropW_all _ _).2 (by rw [List.all_reverse]; exact h)
    rw [this]; rfl
theorem trim_digs (y : ByteArray) : ((ByteArray.mk (Lib.trimS (bs y) (bs digs)).toArray).toList == ([] : List UInt8)) = (bs y).all isDig := by
  rw [ByteArray.toList_eq]
  show ((Lib.trimS (bs y) (bs digs)) == []) = _
  rw [Bool.eq_iff_iff, beq_iff_eq, trim_nil]
  have : (fun b => (bs digs).contains b) = isDig := funext dig_has
  rw [this]
theorem digs_ascii : ∀ (j : Nat) b, digs.data.toList[j]? = some b → b.toNat < 128 := ascii_of_all (by decide)
set_option maxRecDepth 100000 in
set_option maxHeartbeats 8000000 in
theorem next_op (s : ByteArray) (i p : Nat) (w : World) (hs : (s.size : Int) ≤ 4096) (hi : i ≤ s.size) (hm : mayE s.size (i : Int) = 0) (R : Bytes) (hR : R = Sk ((bs s).drop i)) (hp : (p : Int) = (s.size : Int) - (R.length : Int)) (hps : p ≤ s.size) (hRp : R = (bs s).drop p) (hn0 : R ≠ []) (h10 : R.head? ≠ some 10) (hop : 0 < opN R) :
    Calls Tryd.prog 17 #[.string s, .int .i64 (i : Int)] w (NextPost ((⟨2, ⟨(R.take (opN R)).toArray⟩, (p : Int), (p : Int) + (opN R : Int)⟩, 0)) w) := by
  have HM := Lib.hid (fun w => may_calls s i w (by omega))
  rw [hm] at HM
  have HK := fun w => skip_calls s (by unfold Small; omega) i w hi
  rw [← hR] at HK
  have HK := fun w => show Calls _ _ _ _ (fun e w' => e = .returned (.tuple #[.int .i64 ((s.size : Int) - (R.length : Int)), .bool (R != [92])]) ∧ Below w.heap.size w w') from HK w
  rw [← hp] at HK
  obtain ⟨bb, hbb⟩ : ∃ b, b = (R != [92]) := ⟨_, rfl⟩
  rw [← hbb] at HK
  have hpI : (p : Int) ≤ s.size := by omega
  have hp0 : (0 : Int) ≤ p := by omega
  have hsm : Small s := by unfold Small; omega
  have hRl : 0 < R.length := List.length_pos_iff.2 hn0
  have hb : bb = true := by rw [hbb]; cases hRe : R with
    | nil => rfl
    | cons c t => rw [hRe] at hop; rw [bne_iff_ne]; intro e; rw [e] at hop; exact absurd hop (by decide)
  have hlt : p < s.size := by omega
  have hltI : (p : Int) < s.size := by omega
  have hd := bs_drop s p hlt
  have b10 : (((s[p].toNat : Nat) : Int) == 10) = false := by
    rw [q10]; rw [← hRp] at hd; rw [beq_eq_false_iff_ne]; intro e; exact h10 (by rw [hd, e]; rfl)
  obtain ⟨x, hx⟩ : ∃ x, s.extract p s.size = x := ⟨_, rfl⟩
  have hxb : R = bs x := by rw [← hx, bs_tail]; exact hRp
  have HO := fun w => op_calls x w (by rw [← hx, size_tail]; omega)
  have hon := op_ne x
  rw [← hxb] at hon HO
  obtain ⟨y, hy⟩ : ∃ y, y = x.extract 0 (opN R) := ⟨_, rfl⟩
  rw [← hy] at HO hon
  rw [decide_eq_true hop] at hon
  have hon2 : (y.toList == []) = false := by simpa using hon
  obtain ⟨n, hn⟩ : ∃ n, n = opN R := ⟨_, rfl⟩
  have hnle : n ≤ R.length := by rw [hn]; exact opN_le R
  have hyb : bs y = R.take n := by rw [hy, bs_extract, List.drop_zero, Nat.sub_zero, ← hxb, hn]
  have hys : y.size = n := by rw [← bs_length, hyb, List.length_take]; omega
  have hysI : (y.size : Int) = n := by omega
  have hye : s.extract p (p + n) = y := bs_ext (by rw [hyb, bs_extract, ← hRp, show p + n - p = n by omega])
  have hnn : (0 : Int) ≤ n := by omega
  have hpn : (p : Int) + n ≤ s.size := by omega
  have hyt : (⟨(R.take n).toArray⟩ : ByteArray) = y := (bs_eq hyb).symm
  rw [← hn, hyt]
  subst hb
  have HO := Lib.hid HO
  have HN := Lib.hid hn
  clear hd h10 hxb hy hop hon hn hnle hyb hyt hys hn0 hRl hRp hp
  have H1 := Lib.hid ((Sat.start w).alloc (tokO 0 ⟨#[]⟩ 0 0))
  have HK := Lib.hid HK
  have Hsm := Lib.hid hsm
  clear hm hi hR hbb hsm
  go_enter Tryd.func17, Tryd.ntmps17
  go_wp2_with fail
  refine (HM.out _).mono ?_
  rintro e w1 ⟨rfl, rfl⟩
  go_wp2_with fail
  refine (HK.out _).mono ?_
  rintro e w1 ⟨rfl, hB⟩
  have H2 := H1.out.below hB
  obtain ⟨c0, c1, c2, c3, cz⟩ := tok_cells H2
  have HB := Lib.hid (show Below w.heap.size w w1 from Below.trans ((Below.refl _ w).alloc (Nat.le_refl _) _) (hB.mono (by rw [World.size_alloc]; exact Nat.le_succ _)))
  obtain ⟨rb, hrb⟩ : ∃ b, b = w.heap.size := ⟨_, rfl⟩
  rw [← hrb] at H2 c0 c1 c2 c3 cz
  rw [← hrb]
  have H2 := Lib.hid H2
  clear hB hrb H1 HK HM
  clear c0 c1 c2 c3 cz
  go_wp2_with fail
  refine (HO.out _).mono ?_
  rintro e w2 ⟨rfl, hB2⟩
  have H3 := (H2.out.alloc (tokO 0 ⟨#[]⟩ (p : Int) (p : Int))).below hB2
  obtain ⟨tb, htb⟩ : ∃ b, b = w1.heap.size := ⟨_, rfl⟩
  rw [← htb] at H3
  have R2 : Ran w w2 := Ran.below (Ran.new (HB.out.mono (Nat.zero_le _)) _) hB2
  rw [← htb]
  have H3 := Lib.hid H3
  clear htb hB2 H2 HB
  go_wp2_with fail
  refine (HO.out _).mono ?_
  rintro e w3 ⟨rfl, hB3⟩
  have H4 := H3.out.below hB3
  have R3 := Ran.below R2 hB3
  obtain ⟨t0, t1, t2, t3, tz⟩ := tok_cells H4
  have H4 := Lib.hid H4
  clear H3 hB3 R2 HO
  go_upto_region 21 with fail
  clear t0 t1 t2 t3 tz
  have H5 := ((H4.out.set (i := 0) (.int .i64 2)).set (i := 3) (.int .i64 ((p : Int) + n))).set (i := 1) (.string y)
  obtain ⟨w5, hw5⟩ : ∃ x, x = (((w3.setCell ⟨tb, 0, none⟩ (.int .i64 2)).setCell ⟨tb, 3, none⟩ (.int .i64 ((p : Int) + n))).setCell ⟨tb, 1, none⟩ (.string y)) := ⟨_, rfl⟩
  have R5 : Ran w w5 := by rw [hw5]; exact Ran.set (Ran.set (Ran.set R3 _ _) _ _) _ _
  rw [← hw5] at H5
  rw [← hw5]
  have H5 : Sat w5 (pts tb (tokO 2 y (p : Int) ((p : Int) + n)) * (pts rb (tokO 0 ⟨#[]⟩ 0 0) * keep w)) := H5
  obtain ⟨t0, t1, t2, t3, tz⟩ := tok_cells H5
  obtain ⟨c0, c1, c2, c3, cz⟩ := tok_cells (pull1 H5)
  clear hw5 H4
  go_wp2_with fail
  clear t0 t1 t2 t3 tz c0 c1 c2 c3 cz
  have H5 := pull1 H5
  have H9 := (((H5.set (i := 0) (.int .i64 2)).set (i := 1) (.string y)).set (i := 2) (.int .i64 (p : Int))).set (i := 3) (.int .i64 ((p : Int) + n))
  obtain ⟨w9, hw9⟩ : ∃ x, x = ((((w5.setCell ⟨rb, 0, none⟩ (.int .i64 2)).setCell ⟨rb, 1, none⟩ (.string y)).setCell ⟨rb, 2, none⟩ (.int .i64 (p : Int))).setCell ⟨rb, 3, none⟩ (.int .i64 ((p : Int) + n))) := ⟨_, rfl⟩
  rw [← hw9] at H9
  rw [← hw9]
  have R9 : Ran w w9 := by rw [hw9]; exact Ran.set (Ran.set (Ran.set (Ran.set (R5) _ _) _ _) _ _) _ _
  have H9 : Sat w9 (pts rb (tokO 2 y (p : Int) ((p : Int) + n)) * _) := H9
  obtain ⟨r0, r1, r2, r3, rz⟩ := tok_cells H9
  refine bodyPost_ret (v := .tuple #[tokV (⟨2, y, (p : Int), (p : Int) + n⟩), .int .i64 0]) (by simp [results, Tryd.results17, go_sem, r0, r1, r2, r3]) rfl ⟨rfl, Ran.whole' R9 H9.right.right⟩
end Go.Proofs.YtlhkochpokhncaaDoor.Lexer
