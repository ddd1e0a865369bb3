/- LexerNext: which thing begins first from a place on, or that more is needed: the law returns true, for every text and place. -/
import Derived.Test.YtlhkochpokhncaaDoorLxAB
import Derived.Test.YtlhkochpokhncaaDoorTie
import Derived.Test.YtlhkochpokhncaaDoorCards
import Derived.Laws.Concat
import Derived.LaidMore
import Derived.Lay
import Derived.SevenTiedAt
import Derived.Stop.Joined
namespace Go.Proofs.YtlhkochpokhncaaDoor.lexerNext
open Go.ChangeShapes Go.WideShapes Go.ChangeAt Go.RowKit Go.Proofs.YtlhkochpokhncaaDoor Go.Proofs.YtlhkochpokhncaaDoor.Hp Go.Proofs.YtlhkochpokhncaaDoor.Lexer Go.ChangeMaps
set_option linter.unusedVariables false
attribute [local go_sem] Oper.semAt_some

set_option maxRecDepth 100000 in
set_option maxHeartbeats 8000000 in
theorem walk (s : ByteArray) (a : Int) (w : World) (h63 : (s.size : Int) ≤ 9223372036854775807) (_hq : I64 a) :
    Calls Tryd.prog 7 #[.string s, .int .i64 a] w fun e w' => e = .returned (.bool true) ∧ Below w.heap.size w w' := by
  have HA := Lib.hid awake_calls
  by_cases hmid : 1000 < (s.size : Int) ∧ (s.size : Int) ≤ 4096
  · obtain ⟨h1, h2⟩ := hmid
    go_enter Tryd.func7, Tryd.ntmps7
    go_wp2_with fail
    refine (HA.out w).mono ?_
    rintro e w1 ⟨rfl, hB⟩
    go_wp2_with fail
    go_ret
    exact ⟨rfl, hB⟩
  · have N1 := Lib.hid (fun w => next_calls s a w h63)
    have N2 := Lib.hid (fun w => rnext_calls s a w h63)
    have K1 := Lib.hid (fun w => Hole_calls s a w h63)
    have K2 := Lib.hid (fun w => rHole_calls s a w h63)
    obtain ⟨r, hr⟩ : ∃ r, r = nextA s a := ⟨_, rfl⟩
    obtain ⟨q, hq⟩ : ∃ q, q = holeA s a := ⟨_, rfl⟩
    rw [← hr] at N1 N2
    rw [← hq] at K1 K2
    clear hr hq
    obtain ⟨⟨kd, tx, ta, ts⟩, er⟩ := r
    obtain ⟨q1, q2⟩ := q
    have HE := Lib.hid (same_calls ⟨kd, tx, ta, ts⟩)
    have hcase : (s.size : Int) ≤ 1000 ∨ (1000 < (s.size : Int) ∧ 4096 < (s.size : Int)) := by omega
    clear hmid
    rcases hcase with h1 | ⟨h1, h2⟩
    all_goals
      go_enter Tryd.func7, Tryd.ntmps7
      go_wp2_with fail
      refine (N1.out w).mono ?_
      rintro e w1 ⟨rfl, hB1⟩
      have R1 := Ran.new (hB1.mono (Nat.zero_le _)) (tokO kd tx ta ts)
      have S1 := ((Sat.start w).below hB1).alloc (tokO kd tx ta ts)
      obtain ⟨w2, hw2⟩ : ∃ x, x = w1.alloc (tokO kd tx ta ts) := ⟨_, rfl⟩
      obtain ⟨b1, hb1⟩ : ∃ b, b = w1.heap.size := ⟨_, rfl⟩
      rw [← hw2, ← hb1] at S1
      rw [← hw2] at R1
      have S1 := Lib.hid S1
      clear hB1
      go_upto_region 4 with fail
      rw [← hw2, ← hb1]
      clear hw2 hb1
      go_wp2_with fail
      refine (N2.out w2).mono ?_
      rintro e w3 ⟨rfl, hB3⟩
      have R3 := Ran.new (Ran.below R1 hB3) (tokR kd tx ta ts)
      have S3 := (S1.out.below hB3).alloc (tokR kd tx ta ts)
      obtain ⟨w4, hw4⟩ : ∃ x, x = w3.alloc (tokR kd tx ta ts) := ⟨_, rfl⟩
      obtain ⟨b3, hb3⟩ : ∃ b, b = w3.heap.size := ⟨_, rfl⟩
      rw [← hw4, ← hb3] at S3
      rw [← hw4] at R3
      have S3 := Lib.hid S3
      clear hB3 R1 S1
      go_upto_region 5 with fail
      rw [← hw4, ← hb3]
      clear hw4 hb3
      go_wp2_with fail
      refine (K1.out w4).mono ?_
      rintro e w5 ⟨rfl, hB5⟩
      have R5 := Ran.below R3 hB5
      have S5 := Lib.hid (S3.out.below hB5)
      clear hB5 R3 S3
      go_wp2_with fail
      refine (K2.out w5).mono ?_
      rintro e w6 ⟨rfl, hB6⟩
      have R6 := Ran.below R5 hB6
      have S6 := S5.out.below hB6
      obtain ⟨u0, u1, u2, u3, uz⟩ := tokR_cells S6
      obtain ⟨t0, t1, t2, t3, tz⟩ := tok_cells (pull1 S6)
      have S6 := Lib.hid S6
      clear hB6 R5 S5
      go_wp2_with fail
      refine (HE.out w6).mono ?_
      rintro e w7 ⟨rfl, hB7⟩
      have R7 := Ran.below R6 hB7
      have S7 := Lib.hid (S6.out.below hB7)
      clear hB7 R6 S6 u0 u1 u2 u3 uz t0 t1 t2 t3 tz
      go_wp2_with fail
      refine (HA.out w7).mono ?_
      rintro e w8 ⟨rfl, hB8⟩
      have F := Lib.hid (Ran.whole' (Ran.below R7 hB8) (S7.out.below hB8).right.right)
      clear hB8 R7 S7
      go_wp2_with fail
      go_ret
      exact ⟨rfl, F.out⟩

set_option maxRecDepth 100000 in
theorem lifted (os : Os) (started : os.Started) (H : Type) (enc : TypeId × Value → H) :
    ReturnsInHanded {} Tryd.checked os 7 .any (fun w args => (Rows.lexerNextSpec.pre enc Tryd.prog Tryd.f7 Rows.lexerNextRow.domain false w args ∧ laidMetH Tryd.prog Rows.lexerNextRow.laid w) ∧ sizedMet enc Tryd.prog Tryd.f7 (OpenSpec.ofChange Rows.lexerNextSpec) false w args) (Rows.lexerNextSpec.post enc Tryd.prog Tryd.f7 false true false false) := by
  refine returnsInHanded_of_change_and (C := Tryd.checked) (X := fun w _ => laidMetH Tryd.prog Rows.lexerNextRow.laid w) (fun _ _ _ hh h => h.of_heap hh) own started (by kernel_rfl) Tryd.func7
    (ChangeSpec.witness_shaped (enc := enc) (C := Tryd.checked) (os := os) (X := fun w _ => laidMetH Tryd.prog Rows.lexerNextRow.laid w) false (World.laidAll Tryd.prog os Rows.lexerNextRow.laid) #[.string ⟨#[]⟩, .int .i64 0] 8 (World.laidAll_os _ _ _)
      (World.shaped_of_ZipB (by kernel_rfl) (by kernel_rfl)) (by kernel_rfl) (by kernel_rfl) (by kernel_rfl)
      (by rw [MakeChecks.laidMetH_plain _ _ _ (by kernel_rfl)]; exact laidMet_laidAll _ (by kernel_rfl) (by kernel_rfl))) ?_
  intro W base args ds gs before hval0 hW hcnd _ hL _
  have hval : ∀ (j : Nat) t v, Tryd.f7.params[j]? = some t → args[j]? = some v → Value.okWide Tryd.prog W .any base t v := hval0
  have hW' := hW
  obtain ⟨p, q, hA0, hV, rfl, hfz, hnd⟩ := hW
  have hA : DataW.TrodAll enc Tryd.prog W 0 (fun _ => true) true Tryd.f7.params.toList args.toList ds p := hA0
  rw [Tryd.params7] at hA hval
  obtain ⟨v0, vs0, d0, ds0, p0, q0, hargs, rfl, rfl, h0, r0⟩ := trodAll_cons hA
  obtain ⟨v1, vs1, d1, ds1, p1, q1, rfl, rfl, rfl, h1, r1⟩ := trodAll_cons r0
  obtain ⟨rfl, rfl, rfl⟩ := trodAll_nil r1
  obtain rfl : args = #[v0, v1] := by cases args; simp_all
  obtain ⟨rfl, rfl⟩ := trodVars_none hV
  obtain ⟨s0, rfl, rfl, rfl, w0⟩ := open_string Tryd.underlying9 (hval 0 9 v0 rfl rfl) h0
  obtain ⟨a1, rfl, rfl, rfl, w1⟩ := open_int Tryd.underlying3 (hval 1 3 v1 rfl rfl) h1
  clear hA0 hval0
  refine (walk s0 a1 W (by unfold maxLen at w0; omega) (i64_of w1)).mono fun e W' ⟨he, bel⟩ => ?_
  subst he
  exact ⟨_, rfl, _, _, _, [], _, [], hW', trodAll_mk1 (shut_bool Tryd.underlying4 _), (trodAll_cons_mk (shut_string Tryd.underlying9 w0) (trodAll_cons_mk (shut_int Tryd.underlying3 w1) trodAll_mk0)), rfl, bel.frame _, fun h => by cases h⟩

theorem over : Rows.lexerNextRow.holds Tryd.pinned (OpenSpec.ofChange Rows.lexerNextSpec) :=
  OpenClaim.holds_of_wide 7 Tryd.f7 rfl rfl rfl rfl rfl rfl rfl ⟨rfl, rfl, rfl, rfl, rfl⟩ rfl rfl rfl rfl rfl (by kernel_rfl) Tryd.func7 (by kernel_rfl)
    (of_decide_eq_true (by kernel_rfl)) (by unfold Func.isWrapper; first | (rw [if_pos (by decide +kernel)]; kernel_rfl) | (rw [if_neg (by decide +kernel)]; exact ⟨rfl, rfl⟩))
    (fun os started H enc _ => lifted os started H enc)

theorem proved : Rows.LexerNextCardSaid :=
  Claim7.holds_tied_plain_at .later [] [.data, .pinned] true (true, "4c79555ad02daef53123237e431fdc6bc5e59d07fbb8e17f724265a7ee9d4d92") false over (fun _ h => by cases h) (by kernel_rfl) (fun _ h => by cases h) lexerNext_row_tie rfl ⟨rfl, rfl⟩ (by kernel_rfl) rfl
    (fun f fn hf hfn => by
      obtain rfl : f = 7 := Option.some.inj ((show Tryd.prog.funcNamed "whelk/whelklaw11.LexerNext" = some 7 by kernel_rfl).symm.trans hf) |>.symm
      obtain rfl : fn = Tryd.f7 := (Option.some.inj (Tryd.func7.symm.trans hfn)).symm
      exact ⟨by kernel_rfl, fun j t ht => by
        rw [Tryd.params7] at ht
        have hm : t ∈ [9, 3] := by simpa using Array.mem_of_getElem? ht
        have hall : ([9, 3].all fun u => !Tryd.prog.wantsStandIn u) = true := by kernel_rfl
        exact (show Tryd.prog.wantsStandIn t = false by simpa using List.all_eq_true.1 hall t hm)⟩)
    (by kernel_rfl)
#print axioms proved
end Go.Proofs.YtlhkochpokhncaaDoor.lexerNext
