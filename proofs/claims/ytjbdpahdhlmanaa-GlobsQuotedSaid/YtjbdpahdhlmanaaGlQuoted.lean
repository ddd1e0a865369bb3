/- GlobsQuoted: a text whose bytes are all quoted is a pattern that fits itself alone, and is not special: the law returns true, for all texts. -/
import Derived.Test.YtjbdpahdhlmanaaGlL
import Derived.Test.YtjbdpahdhlmanaaGlO
import Derived.Test.YtjbdpahdhlmanaaGlW
import Derived.ChangeMaps5
namespace Go.Proofs.Ytjbdpahdhlmanaa.globsQuoted
open Go.ChangeShapes Go.WideShapes Go.ChangeAt Go.RowKit Go.Proofs.Ytjbdpahdhlmanaa Go.Proofs.Ytjbdpahdhlmanaa.Hp Go.Proofs.Ytjbdpahdhlmanaa.Globs
open Go.ChangeMaps (open_string shut_string)
set_option linter.unusedVariables false

theorem comp_quoted (s : ByteArray) (path : Bool) : compileL (markL (bs s) true) path = litI (bs s) := by
  unfold compileL markL
  rw [compF_quoted path (bs s) _ _ (by rw [List.length_map]; exact Nat.le_refl _)]; rfl
theorem lits_len (s : ByteArray) : (litI (bs s)).length = s.size := by unfold litI; rw [List.length_map, bs_length]
theorem special_lits (l : List UInt8) : specialB (litI l) = false := specialB_no fun i hi => by simp [litI]
set_option maxRecDepth 100000 in
set_option maxHeartbeats 1000000 in
theorem walk (s t : ByteArray) (path : Bool) (W : World) (hs : (s.size : Int) ≤ 9223372036854775807) (ht : (t.size : Int) ≤ 9223372036854775807) :
    Calls Try.prog 6 #[.string s, .string t, .bool path] W fun e w' => e = .returned (.bool true) ∧ Below W.heap.size W w' := by
  by_cases hs2 : s.size ≤ 200
  · have hs2' : (s.size : Int) ≤ 200 := by omega
    by_cases ht2 : t.size ≤ 200
    · have ht2' : (t.size : Int) ≤ 200 := by omega
      go_enter Try.func6, Try.ntmps6
      go_wp2_with fail
      refine (of_lit s true _ (markL (bs s) true) s.size rfl (by unfold markL; rw [List.length_map, bs_length]) (by omega)).mono ?_
      rintro e w1 ⟨⟨a1, c1, rfl, h1⟩, b1⟩
      go_wp2_with fail
      refine (comp_lit (markL (bs s) true) path a1 c1 s.size s.size (litI (bs s)) _ (comp_quoted s path) (by unfold markL; rw [List.length_map, bs_length]) (lits_len s) h1 (by omega)).mono ?_
      rintro e w2 ⟨⟨a2, c2, rfl, h2⟩, b2⟩
      have B2 := b1.trans (b2.mono b1.size)
      clear h1 b1 b2
      go_wp2_with fail
      refine (special_lit (litI (bs s)) a2 c2 s.size _ false (lits_len s) (special_lits _) h2).mono ?_
      rintro e w3 ⟨rfl, b3⟩
      have h3 := h2.keep (Kept.below b3)
      have B3 := B2.trans (b3.mono B2.size)
      clear h2 b3 B2
      go_wp2_with fail
      refine (match_lit (litI (bs s)) s a2 c2 s.size _ true (lits_len s) (by unfold matchB; rw [mtB_lits]; simp) h3 (by omega)).mono ?_
      rintro e w4 ⟨rfl, b4⟩
      have h4 := h3.keep (Kept.below b4)
      have B4 := B3.trans (b4.mono B3.size)
      clear h3 b4 B3
      go_wp2_with fail
      refine (path_lit (litI (bs s)) s a2 c2 s.size _ true (lits_len s) (by unfold pathB; rw [mtB_lits]; simp) h4 (by omega)).mono ?_
      rintro e w5 ⟨rfl, b5⟩
      have h5 := h4.keep (Kept.below b5)
      have B5 := B4.trans (b5.mono B4.size)
      clear h4 b5 B4
      go_wp2_with fail
      by_cases hst : bs s = bs t
      · have hst2 : s = t := by cases s; cases t; unfold bs at hst; simp at hst; rw [hst]
        subst hst2
        refine (match_lit (litI (bs s)) s a2 c2 s.size _ true (lits_len s) (by unfold matchB; rw [mtB_lits]; simp) h5 (by omega)).mono ?_
        rintro e w6 ⟨rfl, b6⟩
        have B6 := B5.trans (b6.mono B5.size)
        clear h5 b6 B5
        go_wp2_with fail
        refine (awake_calls _).mono ?_
        rintro e w7 ⟨rfl, b7⟩
        go_wp2_with fail
        go_ret
        exact ⟨rfl, B6.trans (b7.mono B6.size)⟩
      · have hne : (s.toList == t.toList) = false := by rw [beq_eq_false_iff_ne]; intro e; exact hst (by simpa [bs, ByteArray.toList_eq] using e)
        have hst2 : s ≠ t := fun e => hst (by rw [e])
        refine (match_lit (litI (bs s)) t a2 c2 s.size _ false (lits_len s) (by unfold matchB; rw [mtB_lits]; exact decide_eq_false hst) h5 (by omega)).mono ?_
        rintro e w6 ⟨rfl, b6⟩
        have B6 := B5.trans (b6.mono B5.size)
        clear h5 b6 B5 hst
        go_wp2_with fail
        refine (awake_calls _).mono ?_
        rintro e w7 ⟨rfl, b7⟩
        go_wp2_with fail
        go_ret
        exact ⟨rfl, B6.trans (b7.mono B6.size)⟩
    · have ht2' : ¬ ((t.size : Int) ≤ 200) := by omega
      go_enter Try.func6, Try.ntmps6
      go_wp2_with fail
      refine (awake_calls _).mono ?_
      rintro e w7 ⟨rfl, b7⟩
      go_wp2_with fail
      go_ret
      exact ⟨rfl, b7⟩
  · have hs2' : ¬ ((s.size : Int) ≤ 200) := by omega
    go_enter Try.func6, Try.ntmps6
    go_wp2_with fail
    refine (awake_calls _).mono ?_
    rintro e w7 ⟨rfl, b7⟩
    go_wp2_with fail
    go_ret
    exact ⟨rfl, b7⟩

set_option maxRecDepth 100000 in
theorem lifted (os : Os) (started : os.Started) (H : Type) (enc : TypeId × Value → H) :
    ReturnsInHanded {} Try.checked os 6 .any (Rows.globsQuotedSpec.pre6 enc Try.prog Try.f6 Rows.globsQuotedRow.domain false) (Rows.globsQuotedSpec.post enc Try.prog Try.f6 false true false false) := by
  refine returnsInHanded_of_change (C := Try.checked) own started (by kernel_rfl) Try.func6
    (ChangeSpec.witness6 (enc := enc) (C := Try.checked) false ⟨#[], #[.string ⟨#[]⟩, .string ⟨#[]⟩, .bool false], []⟩ 8 (by kernel_rfl) (by kernel_rfl) (by kernel_rfl) (by kernel_rfl)) ?_
  intro W base args ds gs before hval0 hW hcnd _
  have hval : ∀ (j : Nat) t v, Try.f6.params[j]? = some t → args[j]? = some v → Value.okWide Try.prog W .any base t v := hval0
  have hW' := hW
  obtain ⟨p, q, hA0, hV, rfl, hfz, hnd⟩ := hW
  have hA : DataW.TrodAll enc Try.prog W 0 (fun _ => true) true Try.f6.params.toList args.toList ds p := hA0
  rw [Try.params6] at hA hval
  obtain ⟨v0, vs0, d0, ds0, p0, q0, hargs, rfl, rfl, h0, r0⟩ := trodAll_cons hA
  obtain ⟨v1, vs1, d1, ds1, p1, q1, rfl, rfl, rfl, h1, r1⟩ := trodAll_cons r0
  obtain ⟨v2, vs2, d2, ds2, p2, q2, rfl, rfl, rfl, h2, r2⟩ := trodAll_cons r1
  obtain ⟨rfl, rfl, rfl⟩ := trodAll_nil r2
  obtain rfl : args = #[v0, v1, v2] := by cases args; simp_all
  obtain ⟨rfl, rfl⟩ := trodVars_none hV
  obtain ⟨s0, rfl, rfl, rfl, w0⟩ := open_string Try.underlying9 (hval 0 9 v0 rfl rfl) h0
  obtain ⟨s1, rfl, rfl, rfl, w1⟩ := open_string Try.underlying9 (hval 1 9 v1 rfl rfl) h1
  obtain ⟨x2, rfl, rfl, rfl⟩ := open_bool Try.underlying4 (hval 2 4 v2 rfl rfl) h2
  clear hA0 hval0
  refine (walk s0 s1 x2 W (by unfold maxLen at w0; omega) (by unfold maxLen at w1; omega) ).mono fun e W' ⟨he, bel⟩ => ?_
  subst he
  exact ⟨_, rfl, _, _, _, [], _, [], hW', trodAll_mk1 (shut_bool Try.underlying4 _), (trodAll_cons_mk (shut_string Try.underlying9 w0) (trodAll_cons_mk (shut_string Try.underlying9 w1) (trodAll_cons_mk (shut_bool Try.underlying4 x2) trodAll_mk0))), rfl, bel.frame _, fun h => by cases h⟩

theorem over : Rows.globsQuotedRow.holds Try.pinned (OpenSpec.ofChange Rows.globsQuotedSpec) :=
  OpenClaim.holds_of_wide 6 Try.f6 rfl rfl rfl rfl rfl rfl rfl ⟨rfl, rfl, rfl, rfl, rfl⟩ rfl rfl rfl rfl rfl (by kernel_rfl) Try.func6 (by kernel_rfl)
    (of_decide_eq_true (by kernel_rfl)) (by unfold Func.isWrapper; first | (rw [if_pos (by decide +kernel)]; kernel_rfl) | (rw [if_neg (by decide +kernel)]; exact ⟨rfl, rfl⟩))
    (fun os started H enc _ => lifted os started H enc)

theorem proved : Rows.GlobsQuotedSaid := over
#print axioms proved
end Go.Proofs.Ytjbdpahdhlmanaa.globsQuoted
