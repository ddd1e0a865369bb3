/- GlobsFits: which texts, and which paths, a pattern fits: the law returns true, for all patterns and texts. -/
import Derived.Test.YtjbdpahdhlmanaaGlX
import Derived.Test.YtjbdpahdhlmanaaGlO
import Derived.ChangeMaps5
namespace Go.Proofs.Ytjbdpahdhlmanaa.globsFits
open Go.ChangeShapes Go.WideShapes Go.ChangeAt Go.RowKit Go.Proofs.Ytjbdpahdhlmanaa Go.Proofs.Ytjbdpahdhlmanaa.Hp Go.Proofs.Ytjbdpahdhlmanaa.Globs
open Go.ChangeMaps (open_string shut_string)
set_option linter.unusedVariables false

set_option maxRecDepth 100000 in
set_option maxHeartbeats 4000000 in
theorem walk (ap : Option Addr) (cp : Nat) (p : List Itm) (s : ByteArray) (W : World) (hp : ItemsAt W ap p) (hs : (s.size : Int) ≤ 9223372036854775807) :
    Calls Try.prog 4 #[.slice ap p.length cp, .string s] W fun e w' => e = .returned (.bool true) ∧ Below W.heap.size W w' := by
  have hpl := hp.1
  by_cases hfp : Few p
  · by_cases h200 : s.size ≤ 200
    · have e3 : (s.size : Int) ≤ 200 := by omega
      go_enter Try.func4, Try.ntmps4
      go_wp2_with fail
      refine (few_yes _ _ _ p (by exact hp) hfp).mono ?_
      rintro e w1 ⟨rfl, rfl⟩
      go_wp2_with fail
      refine (match_calls p s ap cp _ hp (by omega)).mono ?_
      rintro e w2 ⟨rfl, b2⟩
      have B2 : Below W.heap.size W w2 := b2
      have I2 := hp.keep (Kept.below b2)
      clear b2
      go_wp2_with fail
      refine (items_calls p ap cp _ I2 (by have := hfp.1; omega) (fun x hx => by have := hfp.2 x hx; omega)).mono ?_
      rintro e w3 ⟨a3, c3, rfl, J3, b3⟩
      have B3 := B2.trans (b3.mono B2.size)
      have I3 := I2.keep (Kept.below b3)
      clear b3 B2 I2
      go_wp2_with fail
      refine (rmatch_calls p s a3 c3 _ J3 (by omega)).mono ?_
      rintro e w4 ⟨rfl, b4⟩
      have B4 := B3.trans (b4.mono B3.size)
      have I4 := I3.keep (Kept.below b4)
      clear b4 B3 I3 J3
      go_wp2_with fail
      refine (path_calls p s ap cp _ I4 (by omega)).mono ?_
      rintro e w5 ⟨rfl, b5⟩
      have B5 := B4.trans (b5.mono B4.size)
      have I5 := I4.keep (Kept.below b5)
      clear b5 B4 I4
      go_wp2_with fail
      refine (items_calls p ap cp _ I5 (by have := hfp.1; omega) (fun x hx => by have := hfp.2 x hx; omega)).mono ?_
      rintro e w6 ⟨a6, c6, rfl, J6, b6⟩
      have B6 := B5.trans (b6.mono B5.size)
      clear b6 B5 I5
      go_wp2_with fail
      refine (rpath_calls p s a6 c6 _ J6 (by omega)).mono ?_
      rintro e w7 ⟨rfl, b7⟩
      have B7 := B6.trans (b7.mono B6.size)
      clear b7 B6 J6
      go_wp2_with fail
      refine (awake_calls _).mono ?_
      rintro e w8 ⟨rfl, b8⟩
      go_wp2_with fail
      go_ret
      exact ⟨rfl, B7.trans (b8.mono B7.size)⟩
    · have e3 : ¬ ((s.size : Int) ≤ 200) := by omega
      go_enter Try.func4, Try.ntmps4
      go_wp2_with fail
      refine (few_yes _ _ _ p (by exact hp) hfp).mono ?_
      rintro e w1 ⟨rfl, rfl⟩
      go_wp2_with fail
      refine (awake_calls _).mono ?_
      rintro e w7 ⟨rfl, b7⟩
      go_wp2_with fail
      go_ret
      exact ⟨rfl, b7⟩
  · go_enter Try.func4, Try.ntmps4
    go_wp2_with fail
    refine (few_no _ _ _ p (by exact hp) hfp).mono ?_
    rintro e w1 ⟨rfl, rfl⟩
    go_wp2_with fail
    refine (awake_calls _).mono ?_
    rintro e w7 ⟨rfl, b7⟩
    go_wp2_with fail
    go_ret
    exact ⟨rfl, b7⟩

set_option maxRecDepth 100000 in
theorem lifted (os : Os) (started : os.Started) (H : Type) (enc : TypeId × Value → H) :
    ReturnsInHanded {} Try.checked os 4 .any (Rows.globsFitsSpec.pre6 enc Try.prog Try.f4 Rows.globsFitsRow.domain false) (Rows.globsFitsSpec.post enc Try.prog Try.f4 false true false false) := by
  refine returnsInHanded_of_change (C := Try.checked) own started (by kernel_rfl) Try.func4
    (ChangeSpec.witness6 (enc := enc) (C := Try.checked) false ⟨#[], #[.slice none 0 0, .string ⟨#[]⟩], []⟩ 8 (by kernel_rfl) (by kernel_rfl) (by kernel_rfl) (by kernel_rfl)) ?_
  intro W base args ds gs before hval0 hW hcnd _
  have hval : ∀ (j : Nat) t v, Try.f4.params[j]? = some t → args[j]? = some v → Value.okWide Try.prog W .any base t v := hval0
  have hW' := hW
  obtain ⟨p, q, hA0, hV, rfl, hfz, hnd⟩ := hW
  have hA : DataW.TrodAll enc Try.prog W 0 (fun _ => true) true Try.f4.params.toList args.toList ds p := hA0
  rw [Try.params4] at hA hval
  obtain ⟨v0, vs0, d0, ds0, p0, q0, hargs, rfl, rfl, h0, r0⟩ := trodAll_cons hA
  obtain ⟨v1, vs1, d1, ds1, p1, q1, rfl, rfl, rfl, h1, r1⟩ := trodAll_cons r0
  obtain ⟨rfl, rfl, rfl⟩ := trodAll_nil r1
  obtain rfl : args = #[v0, v1] := by cases args; simp_all
  obtain ⟨rfl, rfl⟩ := trodVars_none hV
  have k0 := h0
  have lt0 : ∀ x ∈ p0, x.block < W.heap.size := by obtain ⟨m, hm⟩ := k0; exact DataW.trod_lt m _ _ _ hm
  obtain ⟨ao0, l0, cap0, rfl, w0⟩ := items_open (hval 0 24 v0 rfl rfl) h0
  obtain ⟨s1, rfl, rfl, rfl, w1⟩ := open_string Try.underlying9 (hval 1 9 v1 rfl rfl) h1
  clear hA0 hval0
  refine (walk ao0 cap0 l0 s1 W w0.1 (by unfold maxLen at w1; omega)).mono fun e W' ⟨he, bel⟩ => ?_
  subst he
  exact ⟨_, rfl, _, _, _, [], _, [], hW', trodAll_mk1 (shut_bool Try.underlying4 _), (trodAll_cons_mk (Below.trod laidOut (by kernel_rfl) (of_decide_eq_true (by kernel_rfl)) k0 bel lt0) (trodAll_cons_mk (shut_string Try.underlying9 w1) trodAll_mk0)), rfl, bel.frame _, fun h => by cases h⟩

theorem over : Rows.globsFitsRow.holds Try.pinned (OpenSpec.ofChange Rows.globsFitsSpec) :=
  OpenClaim.holds_of_wide 4 Try.f4 rfl rfl rfl rfl rfl rfl rfl ⟨rfl, rfl, rfl, rfl, rfl⟩ rfl rfl rfl rfl rfl (by kernel_rfl) Try.func4 (by kernel_rfl)
    (of_decide_eq_true (by kernel_rfl)) (by unfold Func.isWrapper; first | (rw [if_pos (by decide +kernel)]; kernel_rfl) | (rw [if_neg (by decide +kernel)]; exact ⟨rfl, rfl⟩))
    (fun os started H enc _ => lifted os started H enc)

theorem proved : Rows.GlobsFitsSaid := over
#print axioms proved
end Go.Proofs.Ytjbdpahdhlmanaa.globsFits
