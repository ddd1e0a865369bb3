/- GlobsCompiles: which pattern a marked text is: the law returns true, for all marked texts, for paths and not. -/
import Derived.Test.YtjbdpahdhlmanaaGlRc
import Derived.Test.YtjbdpahdhlmanaaGlSm
import Derived.Test.YtjbdpahdhlmanaaGlCh
import Derived.ChangeMaps5
namespace Go.Proofs.Ytjbdpahdhlmanaa.globsCompiles
open Go.ChangeShapes Go.WideShapes Go.ChangeAt Go.RowKit Go.Proofs.Ytjbdpahdhlmanaa Go.Proofs.Ytjbdpahdhlmanaa.Hp Go.Proofs.Ytjbdpahdhlmanaa.Globs
open Go.ChangeMaps (open_string shut_string)
set_option linter.unusedVariables false

set_option maxRecDepth 100000 in
set_option maxHeartbeats 4000000 in
theorem walk (ap : Option Addr) (cp : Nat) (t : List Ch) (path : Bool) (W : World) (h : CharsAt W ap cp t) :
    Calls Try.prog 3 #[.slice ap t.length cp, .bool path] W fun e w' => e = .returned (.bool true) ∧ Below W.heap.size W w' := by
  by_cases h3 : t.length ≤ 300
  · have e3 : (t.length : Int) ≤ 300 := by omega
    have hm : t.length ≤ 100000 := by omega
    have hbd := compileL_bd t path
    obtain ⟨l, hl⟩ : ∃ l, l = compileL t path := ⟨_, rfl⟩
    have HC := Lib.hid (compile_calls t path ap cp W h hm)
    have HR : Hid (∀ ao cap w, CharsAt w ao cap t → Calls Try.prog 14 #[.slice ao t.length cap, .bool path] w (CompPost t path w)) := Lib.hid fun ao cap w hh => rcompile_calls t path ao cap w hh hm
    unfold CompPost at HC HR
    rw [← hl] at hbd HC HR
    have hbd1 : l.length ≤ 100000 := by omega
    have hbd2 : ∀ y ∈ l, y.rs.length ≤ 100000 := fun y hy => by have := hbd.2 y hy; omega
    have Hbd2 := Lib.hid hbd2
    clear hl hbd hbd2
    go_enter Try.func3, Try.ntmps3
    go_wp2_with fail
    refine HC.out.mono ?_
    rintro e w1 ⟨a1, c1, rfl, I1, b1⟩
    have C1 := h.keep (Kept.below b1)
    clear h HC
    go_wp2_with fail
    refine (text_calls t ap cp _ C1 hm).mono ?_
    rintro e w2 ⟨a2, c2, rfl, C2, b2⟩
    have B2 := b1.trans (b2.mono b1.size)
    have I2 := I1.keep (Kept.below b2)
    clear b1 b2 I1 C1
    go_wp2_with fail
    refine (HR.out _ _ _ C2).mono ?_
    rintro e w3 ⟨a3, c3, rfl, J3, b3⟩
    have B3 := B2.trans (b3.mono B2.size)
    have I3 := I2.keep (Kept.below b3)
    clear B2 b3 I2 C2 HR
    go_wp2_with fail
    refine (items_calls l a1 c1 _ I3 hbd1 Hbd2.out).mono ?_
    rintro e w4 ⟨a4, c4, rfl, K4, b4⟩
    have B4 := B3.trans (b4.mono B3.size)
    have I4 := I3.keep (Kept.below b4)
    have J4 := J3.keep (Kept.below b4)
    clear B3 b4 I3 J3
    go_wp2_with fail
    refine (same_calls l a4 a3 c4 c3 _ K4 J4).mono ?_
    rintro e w5 ⟨rfl, b5⟩
    have B5 := B4.trans (b5.mono B4.size)
    have I5 := I4.keep (Kept.below b5)
    have J5 := J4.keep (Kept.below b5)
    clear B4 b5 I4 J4 K4
    go_wp2_with fail
    refine (special_calls l a1 c1 _ I5).mono ?_
    rintro e w6 ⟨rfl, b6⟩
    have B6 := B5.trans (b6.mono B5.size)
    have J6 := J5.keep (Kept.below b6)
    clear B5 b6 I5 J5
    go_wp2_with fail
    refine (rspecial_calls l a3 c3 _ J6).mono ?_
    rintro e w7 ⟨rfl, b7⟩
    have B7 := B6.trans (b7.mono B6.size)
    clear B6 b7 J6
    obtain ⟨sp, hsp⟩ : ∃ s, s = specialB l := ⟨_, rfl⟩
    rw [← hsp]
    clear hsp
    have hss : (sp == sp) = true := beq_self_eq_true _
    go_wp2_with fail
    refine (awake_calls _).mono ?_
    rintro e w8 ⟨rfl, b8⟩
    go_wp2_with fail
    go_ret
    exact ⟨rfl, B7.trans (b8.mono B7.size)⟩
  · have e3 : ¬ ((t.length : Int) ≤ 300) := by omega
    clear h
    go_enter Try.func3, Try.ntmps3
    go_wp2_with fail
    refine (awake_calls _).mono ?_
    rintro e w7 ⟨rfl, b7⟩
    go_wp2_with fail
    go_ret
    exact ⟨rfl, b7⟩

set_option maxRecDepth 100000 in
theorem lifted (os : Os) (started : os.Started) (H : Type) (enc : TypeId × Value → H) :
    ReturnsInHanded {} Try.checked os 3 .any (Rows.globsCompilesSpec.pre6 enc Try.prog Try.f3 Rows.globsCompilesRow.domain false) (Rows.globsCompilesSpec.post enc Try.prog Try.f3 false true false false) := by
  refine returnsInHanded_of_change (C := Try.checked) own started (by kernel_rfl) Try.func3
    (ChangeSpec.witness6 (enc := enc) (C := Try.checked) false ⟨#[], #[.slice none 0 0, .bool false], []⟩ 8 (by kernel_rfl) (by kernel_rfl) (by kernel_rfl) (by kernel_rfl)) ?_
  intro W base args ds gs before hval0 hW hcnd _
  have hval : ∀ (j : Nat) t v, Try.f3.params[j]? = some t → args[j]? = some v → Value.okWide Try.prog W .any base t v := hval0
  have hW' := hW
  obtain ⟨p, q, hA0, hV, rfl, hfz, hnd⟩ := hW
  have hA : DataW.TrodAll enc Try.prog W 0 (fun _ => true) true Try.f3.params.toList args.toList ds p := hA0
  rw [Try.params3] at hA hval
  obtain ⟨v0, vs0, d0, ds0, p0, q0, hargs, rfl, rfl, h0, r0⟩ := trodAll_cons hA
  obtain ⟨v1, vs1, d1, ds1, p1, q1, rfl, rfl, rfl, h1, r1⟩ := trodAll_cons r0
  obtain ⟨rfl, rfl, rfl⟩ := trodAll_nil r1
  obtain rfl : args = #[v0, v1] := by cases args; simp_all
  obtain ⟨rfl, rfl⟩ := trodVars_none hV
  have k0 := h0
  have lt0 : ∀ x ∈ p0, x.block < W.heap.size := by obtain ⟨m, hm⟩ := k0; exact DataW.trod_lt m _ _ _ hm
  obtain ⟨ao0, l0, cap0, rfl, w0⟩ := chars_open (hval 0 22 v0 rfl rfl) h0
  obtain ⟨x1, rfl, rfl, rfl⟩ := open_bool Try.underlying4 (hval 1 4 v1 rfl rfl) h1
  clear hA0 hval0
  refine (walk ao0 cap0 l0 x1 W w0 ).mono fun e W' ⟨he, bel⟩ => ?_
  subst he
  exact ⟨_, rfl, _, _, _, [], _, [], hW', trodAll_mk1 (shut_bool Try.underlying4 _), (trodAll_cons_mk (Below.trod laidOut (by kernel_rfl) (of_decide_eq_true (by kernel_rfl)) k0 bel lt0) (trodAll_cons_mk (shut_bool Try.underlying4 x1) trodAll_mk0)), rfl, bel.frame _, fun h => by cases h⟩

theorem over : Rows.globsCompilesRow.holds Try.pinned (OpenSpec.ofChange Rows.globsCompilesSpec) :=
  OpenClaim.holds_of_wide 3 Try.f3 rfl rfl rfl rfl rfl rfl rfl ⟨rfl, rfl, rfl, rfl, rfl⟩ rfl rfl rfl rfl rfl (by kernel_rfl) Try.func3 (by kernel_rfl)
    (of_decide_eq_true (by kernel_rfl)) (by unfold Func.isWrapper; first | (rw [if_pos (by decide +kernel)]; kernel_rfl) | (rw [if_neg (by decide +kernel)]; exact ⟨rfl, rfl⟩))
    (fun os started H enc _ => lifted os started H enc)

theorem proved : Rows.GlobsCompilesSaid := over
#print axioms proved
end Go.Proofs.Ytjbdpahdhlmanaa.globsCompiles
