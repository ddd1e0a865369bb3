/- LexerStays: a thing that ends ahead of the end of a text is the same, whatever stands behind the text: the law returns true, for all texts and places. -/
import Derived.Test.YtlhkochpokhncaaDoorLxAF
import Derived.Test.YtlhkochpokhncaaDoorTie
import Derived.Test.YtlhkochpokhncaaDoorCards
import Derived.Laws.Concat
import Derived.LaidMore
import Derived.Lay
import Derived.SevenTiedAt
import Derived.Stop.Joined
namespace Go.Proofs.YtlhkochpokhncaaDoor.lexerStays
open Go.ChangeShapes Go.WideShapes Go.ChangeAt Go.RowKit Go.Proofs.YtlhkochpokhncaaDoor Go.Proofs.YtlhkochpokhncaaDoor.Hp Go.Proofs.YtlhkochpokhncaaDoor.Lexer Go.ChangeMaps
set_option linter.unusedVariables false
attribute [local go_sem] Oper.semAt_some

set_option maxRecDepth 100000 in
set_option maxHeartbeats 8000000 in
theorem walk_far (s t : ByteArray) (a : Int) (w : World) (h63 : (s.size : Int) ≤ 9223372036854775807) (h64 : (t.size : Int) ≤ 9223372036854775807)
    (h : 500 < (s.size : Int) ∨ 500 < (t.size : Int) ∨ a < 0 ∨ (s.size : Int) < a) :
    Calls Tryd.prog 5 #[.string s, .string t, .int .i64 a] w fun e w' => e = .returned (.bool true) ∧ Below w.heap.size w w' := by
  have HA := Lib.hid awake_calls
  by_cases h1 : 500 < (s.size : Int)
  · clear h
    go_enter Tryd.func5, Tryd.ntmps5
    go_wp2_with fail
    refine (HA.out _).mono ?_
    rintro e w1 ⟨rfl, hB⟩
    go_wp2_with fail
    go_ret
    exact ⟨rfl, hB⟩
  · by_cases h2 : 500 < (t.size : Int)
    · clear h
      go_enter Tryd.func5, Tryd.ntmps5
      go_wp2_with fail
      refine (HA.out _).mono ?_
      rintro e w1 ⟨rfl, hB⟩
      go_wp2_with fail
      go_ret
      exact ⟨rfl, hB⟩
    · by_cases h3 : a < 0
      · clear h
        go_enter Tryd.func5, Tryd.ntmps5
        go_wp2_with fail
        refine (HA.out _).mono ?_
        rintro e w1 ⟨rfl, hB⟩
        go_wp2_with fail
        go_ret
        exact ⟨rfl, hB⟩
      · have h4 : (s.size : Int) < a := by omega
        clear h
        go_enter Tryd.func5, Tryd.ntmps5
        go_wp2_with fail
        refine (HA.out _).mono ?_
        rintro e w1 ⟨rfl, hB⟩
        go_wp2_with fail
        go_ret
        exact ⟨rfl, hB⟩
set_option maxRecDepth 100000 in
set_option maxHeartbeats 8000000 in
theorem walk_near (s t : ByteArray) (k : Nat) (w : World) (h1 : (s.size : Int) ≤ 500) (h2 : (t.size : Int) ≤ 500) (h3 : (k : Int) ≤ s.size) :
    Calls Tryd.prog 5 #[.string s, .string t, .int .i64 (k : Int)] w fun e w' => e = .returned (.bool true) ∧ Below w.heap.size w w' := by
  have HA := Lib.hid awake_calls
  have hk0 : (0 : Int) ≤ k := by omega
  obtain ⟨st, hst⟩ : ∃ x : ByteArray, s ++ t = x := ⟨_, rfl⟩
  have hz : st.size = s.size + t.size := by rw [← hst, ← bs_length, bs_app, List.length_append, bs_length, bs_length]
  have N1 := Lib.hid (fun w => next_calls s (k : Int) w (by omega))
  have N2 := Lib.hid (fun w => next_calls st (k : Int) w (by omega))
  have E1 := nextA_err s k (by omega) (by omega)
  have E2 := nextA_err st k (by omega) (by omega)
  have HS : (nextA s (k : Int)).2 = 0 → (nextA s (k : Int)).1.kind ≠ 0 → (nextA s (k : Int)).1.stop < (s.size : Int) → nextA st (k : Int) = nextA s (k : Int) := fun a b c => by rw [← hst]; exact nextA_app s t k (by omega) (by omega) a b c
  obtain ⟨r, hr⟩ : ∃ r, r = nextA s (k : Int) := ⟨_, rfl⟩
  obtain ⟨q, hq⟩ : ∃ q, q = nextA st (k : Int) := ⟨_, rfl⟩
  rw [← hr] at N1 E1
  rw [← hq] at N2 E2
  rw [← hr, ← hq] at HS
  clear hr hq hz
  obtain ⟨⟨kd, tx, ta, ts⟩, er⟩ := r
  obtain ⟨⟨kd', tx', ta', ts'⟩, er'⟩ := q
  dsimp only at E1 E2 HS
  rcases E1 with rfl | rfl
  · by_cases hts : ts < (s.size : Int)
    · by_cases hkd : kd = 0
      · subst hkd
        clear HS
        rcases E2 with rfl | rfl
        all_goals
          go_enter Tryd.func5, Tryd.ntmps5
          go_wp2_with fail
          refine (N1.out w).mono ?_
          rintro e w1 ⟨rfl, hB1⟩
          have R1 := Ran.new (hB1.mono (Nat.zero_le _)) (tokO 0 tx ta ts)
          have S1 := ((Sat.start w).below hB1).alloc (tokO 0 tx ta ts)
          obtain ⟨w2, hw2⟩ : ∃ x, x = w1.alloc (tokO 0 tx ta ts) := ⟨_, rfl⟩
          obtain ⟨b1, hb1⟩ : ∃ b, b = w1.heap.size := ⟨_, rfl⟩
          rw [← hw2, ← hb1] at S1
          rw [← hw2] at R1
          have S1 := Lib.hid S1
          clear hB1
          go_upto_region 4 with fail
          rw [← hw2, ← hb1]
          clear hw2 hb1
          go_wp2_with fail
          refine (N2.out w2).mono ?_
          rintro e w3 ⟨rfl, hB3⟩
          have R3 := Ran.new (Ran.below R1 hB3) (tokO kd' tx' ta' ts')
          have S3 := (S1.out.below hB3).alloc (tokO kd' tx' ta' ts')
          obtain ⟨w4, hw4⟩ : ∃ x, x = w3.alloc (tokO kd' tx' ta' ts') := ⟨_, rfl⟩
          obtain ⟨b3, hb3⟩ : ∃ b, b = w3.heap.size := ⟨_, rfl⟩
          rw [← hw4, ← hb3] at S3
          rw [← hw4] at R3
          obtain ⟨u0, u1, u2, u3, uz⟩ := tok_cells S3
          obtain ⟨t0, t1, t2, t3, tz⟩ := tok_cells (pull1 S3)
          have S3 := Lib.hid S3
          clear hB3 R1 S1
          go_upto_region 5 with fail
          rw [← hw4, ← hb3]
          clear hw4 hb3
          go_wp2_with fail
          refine (HA.out w4).mono ?_
          rintro e w8 ⟨rfl, hB8⟩
          have FF := Lib.hid (Ran.whole' (Ran.below R3 hB8) (S3.out.below hB8).right.right)
          clear hB8 R3 S3
          go_wp2_with fail
          go_ret
          exact ⟨rfl, FF.out⟩
      · have hkB : (kd == 0) = false := by rw [beq_eq_false_iff_ne]; exact hkd
        obtain ⟨e1, e2⟩ := Prod.mk.inj (HS rfl hkd hts)
        obtain ⟨rfl, rfl, rfl, rfl⟩ := Tok.mk.inj e1
        subst e2
        clear HS e1 E2 hkd
        go_enter Tryd.func5, Tryd.ntmps5
        go_wp2_with fail
        refine (N1.out w).mono ?_
        rintro e w1 ⟨rfl, hB1⟩
        have R1 := Ran.new (hB1.mono (Nat.zero_le _)) (tokO kd' tx' ta' ts')
        have S1 := ((Sat.start w).below hB1).alloc (tokO kd' tx' ta' ts')
        obtain ⟨w2, hw2⟩ : ∃ x, x = w1.alloc (tokO kd' tx' ta' ts') := ⟨_, rfl⟩
        obtain ⟨b1, hb1⟩ : ∃ b, b = w1.heap.size := ⟨_, rfl⟩
        rw [← hw2, ← hb1] at S1
        rw [← hw2] at R1
        have S1 := Lib.hid S1
        clear hB1
        go_upto_region 4 with fail
        rw [← hw2, ← hb1]
        clear hw2 hb1
        go_wp2_with fail
        refine (N2.out w2).mono ?_
        rintro e w3 ⟨rfl, hB3⟩
        have R3 := Ran.new (Ran.below R1 hB3) (tokO kd' tx' ta' ts')
        have S3 := (S1.out.below hB3).alloc (tokO kd' tx' ta' ts')
        obtain ⟨w4, hw4⟩ : ∃ x, x = w3.alloc (tokO kd' tx' ta' ts') := ⟨_, rfl⟩
        obtain ⟨b3, hb3⟩ : ∃ b, b = w3.heap.size := ⟨_, rfl⟩
        rw [← hw4, ← hb3] at S3
        rw [← hw4] at R3
        obtain ⟨u0, u1, u2, u3, uz⟩ := tok_cells S3
        obtain ⟨t0, t1, t2, t3, tz⟩ := tok_cells (pull1 S3)
        have S3 := Lib.hid S3
        clear hB3 R1 S1
        go_upto_region 5 with fail
        rw [← hw4, ← hb3]
        clear hw4 hb3
        go_wp2_with fail
        refine (HA.out w4).mono ?_
        rintro e w8 ⟨rfl, hB8⟩
        have FF := Lib.hid (Ran.whole' (Ran.below R3 hB8) (S3.out.below hB8).right.right)
        clear hB8 R3 S3
        go_wp2_with fail
        go_ret
        exact ⟨rfl, FF.out⟩
    · clear HS
      rcases E2 with rfl | rfl
      all_goals
        go_enter Tryd.func5, Tryd.ntmps5
        go_wp2_with fail
        refine (N1.out w).mono ?_
        rintro e w1 ⟨rfl, hB1⟩
        have R1 := Ran.new (hB1.mono (Nat.zero_le _)) (tokO kd tx ta ts)
        have S1 := ((Sat.start w).below hB1).alloc (tokO kd tx ta ts)
        obtain ⟨w2, hw2⟩ : ∃ x, x = w1.alloc (tokO kd tx ta ts) := ⟨_, rfl⟩
        obtain ⟨b1, hb1⟩ : ∃ b, b = w1.heap.size := ⟨_, rfl⟩
        rw [← hw2, ← hb1] at S1
        rw [← hw2] at R1
        have S1 := Lib.hid S1
        clear hB1
        go_upto_region 4 with fail
        rw [← hw2, ← hb1]
        clear hw2 hb1
        go_wp2_with fail
        refine (N2.out w2).mono ?_
        rintro e w3 ⟨rfl, hB3⟩
        have R3 := Ran.new (Ran.below R1 hB3) (tokO kd' tx' ta' ts')
        have S3 := (S1.out.below hB3).alloc (tokO kd' tx' ta' ts')
        obtain ⟨w4, hw4⟩ : ∃ x, x = w3.alloc (tokO kd' tx' ta' ts') := ⟨_, rfl⟩
        obtain ⟨b3, hb3⟩ : ∃ b, b = w3.heap.size := ⟨_, rfl⟩
        rw [← hw4, ← hb3] at S3
        rw [← hw4] at R3
        obtain ⟨u0, u1, u2, u3, uz⟩ := tok_cells S3
        obtain ⟨t0, t1, t2, t3, tz⟩ := tok_cells (pull1 S3)
        have S3 := Lib.hid S3
        clear hB3 R1 S1
        go_upto_region 5 with fail
        rw [← hw4, ← hb3]
        clear hw4 hb3
        go_wp2_with fail
        refine (HA.out w4).mono ?_
        rintro e w8 ⟨rfl, hB8⟩
        have FF := Lib.hid (Ran.whole' (Ran.below R3 hB8) (S3.out.below hB8).right.right)
        clear hB8 R3 S3
        go_wp2_with fail
        go_ret
        exact ⟨rfl, FF.out⟩
  · clear HS
    rcases E2 with rfl | rfl
    all_goals
      go_enter Tryd.func5, Tryd.ntmps5
      go_wp2_with fail
      refine (N1.out w).mono ?_
      rintro e w1 ⟨rfl, hB1⟩
      have R1 := Ran.new (hB1.mono (Nat.zero_le _)) (tokO kd tx ta ts)
      have S1 := ((Sat.start w).below hB1).alloc (tokO kd tx ta ts)
      obtain ⟨w2, hw2⟩ : ∃ x, x = w1.alloc (tokO kd tx ta ts) := ⟨_, rfl⟩
      obtain ⟨b1, hb1⟩ : ∃ b, b = w1.heap.size := ⟨_, rfl⟩
      rw [← hw2, ← hb1] at S1
      rw [← hw2] at R1
      have S1 := Lib.hid S1
      clear hB1
      go_upto_region 4 with fail
      rw [← hw2, ← hb1]
      clear hw2 hb1
      go_wp2_with fail
      refine (N2.out w2).mono ?_
      rintro e w3 ⟨rfl, hB3⟩
      have R3 := Ran.new (Ran.below R1 hB3) (tokO kd' tx' ta' ts')
      have S3 := (S1.out.below hB3).alloc (tokO kd' tx' ta' ts')
      obtain ⟨w4, hw4⟩ : ∃ x, x = w3.alloc (tokO kd' tx' ta' ts') := ⟨_, rfl⟩
      obtain ⟨b3, hb3⟩ : ∃ b, b = w3.heap.size := ⟨_, rfl⟩
      rw [← hw4, ← hb3] at S3
      rw [← hw4] at R3
      obtain ⟨u0, u1, u2, u3, uz⟩ := tok_cells S3
      obtain ⟨t0, t1, t2, t3, tz⟩ := tok_cells (pull1 S3)
      have S3 := Lib.hid S3
      clear hB3 R1 S1
      go_upto_region 5 with fail
      rw [← hw4, ← hb3]
      clear hw4 hb3
      go_wp2_with fail
      refine (HA.out w4).mono ?_
      rintro e w8 ⟨rfl, hB8⟩
      have FF := Lib.hid (Ran.whole' (Ran.below R3 hB8) (S3.out.below hB8).right.right)
      clear hB8 R3 S3
      go_wp2_with fail
      go_ret
      exact ⟨rfl, FF.out⟩
theorem walk (s t : ByteArray) (a : Int) (w : World) (h63 : (s.size : Int) ≤ 9223372036854775807) (h64 : (t.size : Int) ≤ 9223372036854775807) (_hq : I64 a) :
    Calls Tryd.prog 5 #[.string s, .string t, .int .i64 a] w fun e w' => e = .returned (.bool true) ∧ Below w.heap.size w w' := by
  by_cases h : 500 < (s.size : Int) ∨ 500 < (t.size : Int) ∨ a < 0 ∨ (s.size : Int) < a
  · exact walk_far s t a w h63 h64 h
  · obtain ⟨k, rfl⟩ : ∃ k : Nat, a = (k : Int) := ⟨a.toNat, by omega⟩
    exact walk_near s t k w (by omega) (by omega) (by omega)

set_option maxRecDepth 100000 in
theorem lifted (os : Os) (started : os.Started) (H : Type) (enc : TypeId × Value → H) :
    ReturnsInHanded {} Tryd.checked os 5 .any (fun w args => (Rows.lexerStaysSpec.pre enc Tryd.prog Tryd.f5 Rows.lexerStaysRow.domain false w args ∧ laidMetH Tryd.prog Rows.lexerStaysRow.laid w) ∧ sizedMet enc Tryd.prog Tryd.f5 (OpenSpec.ofChange Rows.lexerStaysSpec) false w args) (Rows.lexerStaysSpec.post enc Tryd.prog Tryd.f5 false true false false) := by
  refine returnsInHanded_of_change_and (C := Tryd.checked) (X := fun w _ => laidMetH Tryd.prog Rows.lexerStaysRow.laid w) (fun _ _ _ hh h => h.of_heap hh) own started (by kernel_rfl) Tryd.func5
    (ChangeSpec.witness_shaped (enc := enc) (C := Tryd.checked) (os := os) (X := fun w _ => laidMetH Tryd.prog Rows.lexerStaysRow.laid w) false (World.laidAll Tryd.prog os Rows.lexerStaysRow.laid) #[.string ⟨#[]⟩, .string ⟨#[]⟩, .int .i64 0] 8 (World.laidAll_os _ _ _)
      (World.shaped_of_ZipB (by kernel_rfl) (by kernel_rfl)) (by kernel_rfl) (by kernel_rfl) (by kernel_rfl)
      (by rw [MakeChecks.laidMetH_plain _ _ _ (by kernel_rfl)]; exact laidMet_laidAll _ (by kernel_rfl) (by kernel_rfl))) ?_
  intro W base args ds gs before hval0 hW hcnd _ hL _
  have hval : ∀ (j : Nat) t v, Tryd.f5.params[j]? = some t → args[j]? = some v → Value.okWide Tryd.prog W .any base t v := hval0
  have hW' := hW
  obtain ⟨p, q, hA0, hV, rfl, hfz, hnd⟩ := hW
  have hA : DataW.TrodAll enc Tryd.prog W 0 (fun _ => true) true Tryd.f5.params.toList args.toList ds p := hA0
  rw [Tryd.params5] at hA hval
  obtain ⟨v0, vs0, d0, ds0, p0, q0, hargs, rfl, rfl, h0, r0⟩ := trodAll_cons hA
  obtain ⟨v1, vs1, d1, ds1, p1, q1, rfl, rfl, rfl, h1, r1⟩ := trodAll_cons r0
  obtain ⟨v2, vs2, d2, ds2, p2, q2, rfl, rfl, rfl, h2, r2⟩ := trodAll_cons r1
  obtain ⟨rfl, rfl, rfl⟩ := trodAll_nil r2
  obtain rfl : args = #[v0, v1, v2] := by cases args; simp_all
  obtain ⟨rfl, rfl⟩ := trodVars_none hV
  obtain ⟨s0, rfl, rfl, rfl, w0⟩ := open_string Tryd.underlying9 (hval 0 9 v0 rfl rfl) h0
  obtain ⟨s1, rfl, rfl, rfl, w1⟩ := open_string Tryd.underlying9 (hval 1 9 v1 rfl rfl) h1
  obtain ⟨a2, rfl, rfl, rfl, w2⟩ := open_int Tryd.underlying3 (hval 2 3 v2 rfl rfl) h2
  clear hA0 hval0
  refine (walk s0 s1 a2 W (by unfold maxLen at w0; omega) (by unfold maxLen at w1; omega) (i64_of w2)).mono fun e W' ⟨he, bel⟩ => ?_
  subst he
  exact ⟨_, rfl, _, _, _, [], _, [], hW', trodAll_mk1 (shut_bool Tryd.underlying4 _), (trodAll_cons_mk (shut_string Tryd.underlying9 w0) (trodAll_cons_mk (shut_string Tryd.underlying9 w1) (trodAll_cons_mk (shut_int Tryd.underlying3 w2) trodAll_mk0))), rfl, bel.frame _, fun h => by cases h⟩

theorem over : Rows.lexerStaysRow.holds Tryd.pinned (OpenSpec.ofChange Rows.lexerStaysSpec) :=
  OpenClaim.holds_of_wide 5 Tryd.f5 rfl rfl rfl rfl rfl rfl rfl ⟨rfl, rfl, rfl, rfl, rfl⟩ rfl rfl rfl rfl rfl (by kernel_rfl) Tryd.func5 (by kernel_rfl)
    (of_decide_eq_true (by kernel_rfl)) (by unfold Func.isWrapper; first | (rw [if_pos (by decide +kernel)]; kernel_rfl) | (rw [if_neg (by decide +kernel)]; exact ⟨rfl, rfl⟩))
    (fun os started H enc _ => lifted os started H enc)

theorem proved : Rows.LexerStaysCardSaid :=
  Claim7.holds_tied_plain_at .later [] [.data, .pinned] true (true, "4c79555ad02daef53123237e431fdc6bc5e59d07fbb8e17f724265a7ee9d4d92") false over (fun _ h => by cases h) (by kernel_rfl) (fun _ h => by cases h) lexerStays_row_tie rfl ⟨rfl, rfl⟩ (by kernel_rfl) rfl
    (fun f fn hf hfn => by
      obtain rfl : f = 5 := Option.some.inj ((show Tryd.prog.funcNamed "whelk/whelklaw11.LexerStays" = some 5 by kernel_rfl).symm.trans hf) |>.symm
      obtain rfl : fn = Tryd.f5 := (Option.some.inj (Tryd.func5.symm.trans hfn)).symm
      exact ⟨by kernel_rfl, fun j t ht => by
        rw [Tryd.params5] at ht
        have hm : t ∈ [9, 9, 3] := by simpa using Array.mem_of_getElem? ht
        have hall : ([9, 9, 3].all fun u => !Tryd.prog.wantsStandIn u) = true := by kernel_rfl
        exact (show Tryd.prog.wantsStandIn t = false by simpa using List.all_eq_true.1 hall t hm)⟩)
    (by kernel_rfl)
#print axioms proved
end Go.Proofs.YtlhkochpokhncaaDoor.lexerStays
