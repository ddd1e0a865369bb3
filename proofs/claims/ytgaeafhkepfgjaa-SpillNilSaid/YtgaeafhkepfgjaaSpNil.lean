/- SpillNil: a nil pool, and a nil buffer, have nothing: the law returns true, whatever the text and the number. -/
import Derived.Test.YtgaeafhkepfgjaaSpG
import Derived.ProofKit
import Derived.OpenShut
import Derived.ShutString
import Derived.ChangeOld
namespace Go.Proofs.Ytgaeafhkepfgjaa.spillNil
open Go.ChangeShapes Go.WideShapes Go.ChangeAt Go.RowKit Go.Proofs.Ytgaeafhkepfgjaa Go.Proofs.Ytgaeafhkepfgjaa.Hp Go.Proofs.Ytgaeafhkepfgjaa.Spill
open Go.ChangeMaps (open_string shut_string)
set_option linter.unusedVariables false

theorem own : ownKnob Try.prog.godebug = none := by kernel_rfl
theorem laidOut : laidOutB Try.prog = true := by kernel_rfl

set_option maxRecDepth 100000 in
theorem walk (s : ByteArray) (n : Int) (w : World) (hs : (s.size : Int) ≤ 9223372036854775807) :
    Calls Try.prog 6 #[.string s, .int .i64 n] w fun e w' => e = .returned (.bool true) ∧ Below w.heap.size w w' := by
  by_cases h : (300 : Int) < s.size
  · go_enter Try.func6, Try.ntmps6
    go_wp2_with fail
    refine (awake_calls _ (keep w) (Sat.start w)).mono ?_
    rintro e w' ⟨rfl, H, R⟩
    go_wp2_with fail
    go_ret
    exact ⟨rfl, Ran.whole' R H⟩
  · go_enter Try.func6, Try.ntmps6
    go_wp2_with (first
      | (go_at_call 14; refine (drain_nil _ _).mono ?_; rintro e w' ⟨rfl, rfl⟩)
      | (go_at_call 10; refine (open_nil _).mono ?_; rintro e w' ⟨rfl, rfl⟩)
      | (go_at_call 11; refine (held_nil _).mono ?_; rintro e w' ⟨rfl, rfl⟩)
      | (go_at_call 12; refine (chunks_nil _).mono ?_; rintro e w' ⟨rfl, rfl⟩)
      | (go_at_call 26; refine (buffers_nil _).mono ?_; rintro e w' ⟨rfl, rfl⟩)
      | (go_at_call 13; refine (append_nil _ _).mono ?_; rintro e w' ⟨rfl, rfl⟩)
      | (go_at_call 22; refine (len_nil _).mono ?_; rintro e w' ⟨rfl, rfl⟩)
      | (go_at_call 20; refine (close_nil _).mono ?_; rintro e w' ⟨rfl, rfl⟩)
      | (go_at_call 8; refine (awake_calls w (keep w) (Sat.start w)).mono ?_; rintro e w' ⟨rfl, H, R⟩))
    go_ret
    exact ⟨rfl, Ran.whole' R H⟩

set_option maxRecDepth 100000 in
theorem lifted (os : Os) (started : os.Started) (H : Type) (enc : TypeId × Value → H) :
    ReturnsInHanded {} Try.checked os 6 .any (Rows.spillNilSpec.pre6 enc Try.prog Try.f6 Rows.spillNilRow.domain false) (Rows.spillNilSpec.post enc Try.prog Try.f6 false true false false) := by
  refine returnsInHanded_of_change (C := Try.checked) own started (by kernel_rfl) Try.func6
    (ChangeSpec.witness6 (enc := enc) (C := Try.checked) false ⟨#[], #[.string ⟨#[]⟩, .int .i64 0], []⟩ 8 (by kernel_rfl) (by kernel_rfl) (by kernel_rfl) (by kernel_rfl)) ?_
  intro W base args ds gs before hval0 hW hcnd _
  have hval : ∀ (j : Nat) t v, Try.f6.params[j]? = some t → args[j]? = some v → Value.okWide Try.prog W .any base t v := hval0
  have hW' := hW
  obtain ⟨p, q, hA0, hV, rfl, hfz, hnd⟩ := hW
  have hA : DataW.TrodAll enc Try.prog W 0 (fun _ => true) true Try.f6.params.toList args.toList ds p := hA0
  rw [Try.params6] at hA hval
  obtain ⟨v0, vs0, d0, ds0, p0, q0, hargs, rfl, rfl, h0, r0⟩ := trodAll_cons hA
  obtain ⟨v1, vs1, d1, ds1, p1, q1, rfl, rfl, rfl, h1, r1⟩ := trodAll_cons r0
  obtain ⟨rfl, rfl, rfl⟩ := trodAll_nil r1
  obtain rfl : args = #[v0, v1] := by cases args; simp_all
  obtain ⟨rfl, rfl⟩ := trodVars_none hV
  obtain ⟨s, rfl, rfl, rfl, ws⟩ := open_string Try.underlying9 (hval 0 9 v0 rfl rfl) h0
  obtain ⟨a1, rfl, rfl, rfl, w1⟩ := open_int Try.underlying3 (hval 1 3 v1 rfl rfl) h1
  clear hA0 hval0
  refine (walk s a1 W (by unfold maxLen at ws; omega)).mono fun e W' ⟨he, bel⟩ => ?_
  subst he
  exact ⟨_, rfl, _, _, _, [], _, [], hW', trodAll_mk1 (shut_bool Try.underlying4 _), (trodAll_cons_mk (shut_string Try.underlying9 ws) (trodAll_cons_mk (shut_int Try.underlying3 w1) trodAll_mk0)), rfl, bel.frame _, fun h => by cases h⟩

theorem over : Rows.spillNilRow.holds Try.pinned (OpenSpec.ofChange Rows.spillNilSpec) :=
  OpenClaim.holds_of_wide 6 Try.f6 rfl rfl rfl rfl rfl rfl rfl ⟨rfl, rfl, rfl, rfl, rfl⟩ rfl rfl rfl rfl rfl (by kernel_rfl) Try.func6 (by kernel_rfl)
    (of_decide_eq_true (by kernel_rfl)) (by unfold Func.isWrapper; first | (rw [if_pos (by decide +kernel)]; kernel_rfl) | (rw [if_neg (by decide +kernel)]; exact ⟨rfl, rfl⟩))
    (fun os started H enc _ => lifted os started H enc)

theorem proved : Rows.SpillNilSaid := over
#print axioms proved
end Go.Proofs.Ytgaeafhkepfgjaa.spillNil
