/- GlobsEnds: how long the beginnings and the ends are that a pattern fits: the law returns true, for all patterns and texts. -/
import Derived.Test.YtjbdpahdhlmanaaGlY
import Derived.ChangeMaps5
namespace Go.Proofs.Ytjbdpahdhlmanaa.globsEnds
open Go.ChangeShapes Go.WideShapes Go.ChangeAt Go.RowKit Go.Proofs.Ytjbdpahdhlmanaa Go.Proofs.Ytjbdpahdhlmanaa.Hp Go.Proofs.Ytjbdpahdhlmanaa.Globs
open Go.ChangeMaps (open_string shut_string)
set_option linter.unusedVariables false

set_option maxRecDepth 100000 in
set_option maxHeartbeats 8000000 in
theorem walk (ap : Option Addr) (cp : Nat) (p : List Itm) (s : ByteArray) (W : World) (hp : ItemsAt W ap p) (hs : (s.size : Int) ≤ 9223372036854775807) :
    Calls Try.prog 9 #[.slice ap p.length cp, .string s] W fun e w' => e = .returned (.bool true) ∧ Below W.heap.size W w' := by
  have hpl := hp.1
  by_cases hfp : Few p
  · by_cases h60 : s.size ≤ 60
    · have e3 : (s.size : Int) ≤ 60 := by omega
      have hm : s.size ≤ 100000 := by omega
      obtain ⟨x1, hx1⟩ : ∃ x, x = atL (headF p s) false (s.size + 1) := ⟨_, rfl⟩
      obtain ⟨x2, hx2⟩ : ∃ x, x = atL (headF p s) true (s.size + 1) := ⟨_, rfl⟩
      obtain ⟨x3, hx3⟩ : ∃ x, x = atL (tailF p s) false (s.size + 1) := ⟨_, rfl⟩
      obtain ⟨x4, hx4⟩ : ∃ x, x = atL (tailF p s) true (s.size + 1) := ⟨_, rfl⟩
      go_enter Try.func9, Try.ntmps9
      go_wp2_with fail
      refine (few_yes _ _ _ p (by exact hp) hfp).mono ?_
      rintro e w1 ⟨rfl, rfl⟩
      go_wp2_with fail
      refine (items_calls p ap cp _ hp (by have := hfp.1; omega) (fun x hx => by have := hfp.2 x hx; omega)).mono ?_
      rintro e w1 ⟨a1, c1, rfl, J1, b1⟩
      have B1 : Below W.heap.size W w1 := b1
      have I1 := hp.keep (Kept.below b1)
      clear b1 hp
      go_wp2_with fail
      refine (head_calls p s false ap cp _ I1 hm).mono ?_
      rintro e w2 ⟨rfl, b2⟩
      rw [← hx1]
      have B2 := B1.trans (b2.mono B1.size)
      have I2 := I1.keep (Kept.below b2)
      have J2 := J1.keep (Kept.below b2)
      clear b2 B1 I1 J1
      go_wp2_with fail
      refine (rhead_calls p s false a1 c1 _ J2 hm).mono ?_
      rintro e w3 ⟨rfl, b3⟩
      rw [← hx1]
      have B3 := B2.trans (b3.mono B2.size)
      have I3 := I2.keep (Kept.below b3)
      have J3 := J2.keep (Kept.below b3)
      clear b3 B2 I2 J2
      go_wp2_with fail
      refine (head_calls p s true ap cp _ I3 hm).mono ?_
      rintro e w4 ⟨rfl, b4⟩
      rw [← hx2]
      have B4 := B3.trans (b4.mono B3.size)
      have I4 := I3.keep (Kept.below b4)
      have J4 := J3.keep (Kept.below b4)
      clear b4 B3 I3 J3
      go_wp2_with fail
      refine (rhead_calls p s true a1 c1 _ J4 hm).mono ?_
      rintro e w5 ⟨rfl, b5⟩
      rw [← hx2]
      have B5 := B4.trans (b5.mono B4.size)
      have I5 := I4.keep (Kept.below b5)
      have J5 := J4.keep (Kept.below b5)
      clear b5 B4 I4 J4
      go_wp2_with fail
      refine (tail_calls p s false ap cp _ I5 hm).mono ?_
      rintro e w6 ⟨rfl, b6⟩
      rw [← hx3]
      have B6 := B5.trans (b6.mono B5.size)
      have I6 := I5.keep (Kept.below b6)
      have J6 := J5.keep (Kept.below b6)
      clear b6 B5 I5 J5
      go_wp2_with fail
      refine (rtail_calls p s false a1 c1 _ J6 hm).mono ?_
      rintro e w7 ⟨rfl, b7⟩
      rw [← hx3]
      have B7 := B6.trans (b7.mono B6.size)
      have I7 := I6.keep (Kept.below b7)
      have J7 := J6.keep (Kept.below b7)
      clear b7 B6 I6 J6
      go_wp2_with fail
      refine (tail_calls p s true ap cp _ I7 hm).mono ?_
      rintro e w8 ⟨rfl, b8⟩
      rw [← hx4]
      have B8 := B7.trans (b8.mono B7.size)
      have I8 := I7.keep (Kept.below b8)
      have J8 := J7.keep (Kept.below b8)
      clear b8 B7 I7 J7
      go_wp2_with fail
      refine (rtail_calls p s true a1 c1 _ J8 hm).mono ?_
      rintro e w9 ⟨rfl, b9⟩
      rw [← hx4]
      have B9 := B8.trans (b9.mono B8.size)
      have I9 := I8.keep (Kept.below b9)
      have J9 := J8.keep (Kept.below b9)
      clear b9 B8 I8 J8
      go_wp2_with fail
      refine (awake_calls _).mono ?_
      rintro e w10 ⟨rfl, b10⟩
      go_wp2_with fail
      go_ret
      exact ⟨rfl, B9.trans (b10.mono B9.size)⟩
    · have e3 : ¬ ((s.size : Int) ≤ 60) := by omega
      go_enter Try.func9, Try.ntmps9
      go_wp2_with fail
      refine (few_yes _ _ _ p (by exact hp) hfp).mono ?_
      rintro e w1 ⟨rfl, rfl⟩
      go_wp2_with fail
      refine (awake_calls _).mono ?_
      rintro e w7 ⟨rfl, b7⟩
      go_wp2_with fail
      go_ret
      exact ⟨rfl, b7⟩
  · go_enter Try.func9, Try.ntmps9
    go_wp2_with fail
    refine (few_no _ _ _ p (by exact hp) hfp).mono ?_
    rintro e w1 ⟨rfl, rfl⟩
    go_wp2_with fail
    refine (awake_calls _).mono ?_
    rintro e w7 ⟨rfl, b7⟩
    go_wp2_with fail
    go_ret
    exact ⟨rfl, b7⟩

set_option maxRecDepth 100000 in
theorem lifted (os : Os) (started : os.Started) (H : Type) (enc : TypeId × Value → H) :
    ReturnsInHanded {} Try.checked os 9 .any (Rows.globsEndsSpec.pre6 enc Try.prog Try.f9 Rows.globsEndsRow.domain false) (Rows.globsEndsSpec.post enc Try.prog Try.f9 false true false false) := by
  refine returnsInHanded_of_change (C := Try.checked) own started (by kernel_rfl) Try.func9
    (ChangeSpec.witness6 (enc := enc) (C := Try.checked) false ⟨#[], #[.slice none 0 0, .string ⟨#[]⟩], []⟩ 8 (by kernel_rfl) (by kernel_rfl) (by kernel_rfl) (by kernel_rfl)) ?_
  intro W base args ds gs before hval0 hW hcnd _
  have hval : ∀ (j : Nat) t v, Try.f9.params[j]? = some t → args[j]? = some v → Value.okWide Try.prog W .any base t v := hval0
  have hW' := hW
  obtain ⟨p, q, hA0, hV, rfl, hfz, hnd⟩ := hW
  have hA : DataW.TrodAll enc Try.prog W 0 (fun _ => true) true Try.f9.params.toList args.toList ds p := hA0
  rw [Try.params9] at hA hval
  obtain ⟨v0, vs0, d0, ds0, p0, q0, hargs, rfl, rfl, h0, r0⟩ := trodAll_cons hA
  obtain ⟨v1, vs1, d1, ds1, p1, q1, rfl, rfl, rfl, h1, r1⟩ := trodAll_cons r0
  obtain ⟨rfl, rfl, rfl⟩ := trodAll_nil r1
  obtain rfl : args = #[v0, v1] := by cases args; simp_all
  obtain ⟨rfl, rfl⟩ := trodVars_none hV
  have k0 := h0
  have lt0 : ∀ x ∈ p0, x.block < W.heap.size := by obtain ⟨m, hm⟩ := k0; exact DataW.trod_lt m _ _ _ hm
  obtain ⟨ao0, l0, cap0, rfl, w0⟩ := items_open (hval 0 24 v0 rfl rfl) h0
  obtain ⟨s1, rfl, rfl, rfl, w1⟩ := open_string Try.underlying9 (hval 1 9 v1 rfl rfl) h1
  clear hA0 hval0
  refine (walk ao0 cap0 l0 s1 W w0.1 (by unfold maxLen at w1; omega)).mono fun e W' ⟨he, bel⟩ => ?_
  subst he
  exact ⟨_, rfl, _, _, _, [], _, [], hW', trodAll_mk1 (shut_bool Try.underlying4 _), (trodAll_cons_mk (Below.trod laidOut (by kernel_rfl) (of_decide_eq_true (by kernel_rfl)) k0 bel lt0) (trodAll_cons_mk (shut_string Try.underlying9 w1) trodAll_mk0)), rfl, bel.frame _, fun h => by cases h⟩

theorem over : Rows.globsEndsRow.holds Try.pinned (OpenSpec.ofChange Rows.globsEndsSpec) :=
  OpenClaim.holds_of_wide 9 Try.f9 rfl rfl rfl rfl rfl rfl rfl ⟨rfl, rfl, rfl, rfl, rfl⟩ rfl rfl rfl rfl rfl (by kernel_rfl) Try.func9 (by kernel_rfl)
    (of_decide_eq_true (by kernel_rfl)) (by unfold Func.isWrapper; first | (rw [if_pos (by decide +kernel)]; kernel_rfl) | (rw [if_neg (by decide +kernel)]; exact ⟨rfl, rfl⟩))
    (fun os started H enc _ => lifted os started H enc)

theorem proved : Rows.GlobsEndsSaid := over
#print axioms proved
end Go.Proofs.Ytjbdpahdhlmanaa.globsEnds
