/- LexerDocs: which lines stand ahead of one: the law returns true, for every text, mark and place. -/
import Derived.Test.YtlhkochpokhncaaDoorLxAE
import Derived.Test.YtlhkochpokhncaaDoorTie
import Derived.Test.YtlhkochpokhncaaDoorCards
import Derived.Laws.Concat
import Derived.LaidMore
import Derived.Lay
import Derived.SevenTiedAt
import Derived.Stop.Joined
namespace Go.Proofs.YtlhkochpokhncaaDoor.lexerDocs
open Go.ChangeShapes Go.WideShapes Go.ChangeAt Go.RowKit Go.Proofs.YtlhkochpokhncaaDoor Go.Proofs.YtlhkochpokhncaaDoor.Hp Go.Proofs.YtlhkochpokhncaaDoor.Lexer Go.ChangeMaps
set_option linter.unusedVariables false
attribute [local go_sem] Oper.semAt_some

abbrev inO (a : Int) (b : Bool) : Obj := .cells #[.int .i64 a, .bool b] 36 (0, 0)
theorem in_cells {w : World} {b : Nat} {a : Int} {x : Bool} {S : Hp} (h : Sat w (pts b (inO a x) * S)) : w.cell? ⟨b, 0, none⟩ = some (.int .i64 a) ∧ w.cell? ⟨b, 1, none⟩ = some (.bool x) :=
  ⟨by rw [cell_at h.get]; rfl, by rw [cell_at h.get]; rfl⟩
set_option maxRecDepth 100000 in
set_option maxHeartbeats 8000000 in
theorem walk (s mark : ByteArray) (a : Int) (tabs : Bool) (w : World) (h63 : (s.size : Int) ≤ 9223372036854775807) (h64 : (mark.size : Int) ≤ 9223372036854775807) (_hq : I64 a) :
    Calls Tryd.prog 4 #[.string s, .string mark, .agg #[.int .i64 a, .bool tabs]] w fun e w' => e = .returned (.bool true) ∧ Below w.heap.size w w' := by
  have HA := Lib.hid awake_calls
  by_cases hmid : 1000 < (s.size : Int) ∧ (s.size : Int) ≤ 4096
  · obtain ⟨h1, h2⟩ := hmid
    go_enter Tryd.func4, Tryd.ntmps4
    go_wp2_with fail
    refine (HA.out _).mono ?_
    rintro e w1 ⟨rfl, hB⟩
    have HF := Lib.hid (((Below.refl _ w).alloc (Nat.le_refl _) _).trans (hB.mono (by rw [World.size_alloc]; exact Nat.le_succ _)))
    clear hB
    go_wp2_with fail
    go_ret
    exact ⟨rfl, HF.out⟩
  · have hcase : (s.size : Int) ≤ 1000 ∨ (1000 < (s.size : Int) ∧ 4096 < (s.size : Int)) := by omega
    clear hmid
    by_cases hmk : 100 < (mark.size : Int)
    · rcases hcase with h1 | ⟨h1, h2⟩
      all_goals
        go_enter Tryd.func4, Tryd.ntmps4
        go_wp2_with fail
        refine (HA.out _).mono ?_
        rintro e w1 ⟨rfl, hB⟩
        have HF := Lib.hid (((Below.refl _ w).alloc (Nat.le_refl _) _).trans (hB.mono (by rw [World.size_alloc]; exact Nat.le_succ _)))
        clear hB
        go_wp2_with fail
        go_ret
        exact ⟨rfl, HF.out⟩
    · have D1 := Lib.hid (fun w => doc_calls s mark a tabs w h63 (by omega))
      have D2 := Lib.hid (fun w => rdoc_calls s mark a tabs w h63)
      obtain ⟨r, hr⟩ : ∃ r, r = docA s a mark tabs := ⟨_, rfl⟩
      rw [← hr] at D1 D2
      clear hr
      obtain ⟨r1, r2, r3⟩ := r
      unfold DPost at D1 D2
      dsimp only at D1 D2
      obtain ⟨x, hx⟩ : ∃ x : ByteArray, x = ⟨r1.toArray⟩ := ⟨_, rfl⟩
      rw [← hx] at D1 D2
      clear hx
      have S1 := (Sat.start w).alloc (inO a tabs)
      have R1 := Ran.new (Below.refl 0 w) (inO a tabs)
      obtain ⟨t0, t1⟩ := in_cells S1
      have S1 := Lib.hid S1
      rcases hcase with h1 | ⟨h1, h2⟩
      all_goals
        go_enter Tryd.func4, Tryd.ntmps4
        go_wp2_with fail
        refine (D1.out _).mono ?_
        rintro e w1 ⟨rfl, hB1⟩
        have S2 := S1.out.below hB1
        have R2 := Ran.below R1 hB1
        clear t0 t1
        obtain ⟨t0, t1⟩ := in_cells S2
        have S2 := Lib.hid S2
        clear hB1 R1 S1
        go_wp2_with fail
        refine (D2.out _).mono ?_
        rintro e w2 ⟨rfl, hB2⟩
        have S3 := Lib.hid (S2.out.below hB2)
        have R3 := Ran.below R2 hB2
        clear hB2 R2 S2
        go_wp2_with fail
        refine (HA.out _).mono ?_
        rintro e w3 ⟨rfl, hB3⟩
        have F := Lib.hid (Ran.whole' (Ran.below R3 hB3) (S3.out.below hB3).right)
        clear hB3 R3 S3
        go_wp2_with fail
        go_ret
        exact ⟨rfl, F.out⟩

set_option maxRecDepth 100000 in
theorem lifted (os : Os) (started : os.Started) (H : Type) (enc : TypeId × Value → H) :
    ReturnsInHanded {} Tryd.checked os 4 .any (fun w args => (Rows.lexerDocsSpec.pre enc Tryd.prog Tryd.f4 Rows.lexerDocsRow.domain false w args ∧ laidMetH Tryd.prog Rows.lexerDocsRow.laid w) ∧ sizedMet enc Tryd.prog Tryd.f4 (OpenSpec.ofChange Rows.lexerDocsSpec) false w args) (Rows.lexerDocsSpec.post enc Tryd.prog Tryd.f4 false true false false) := by
  refine returnsInHanded_of_change_and (C := Tryd.checked) (X := fun w _ => laidMetH Tryd.prog Rows.lexerDocsRow.laid w) (fun _ _ _ hh h => h.of_heap hh) own started (by kernel_rfl) Tryd.func4
    (ChangeSpec.witness_shaped (enc := enc) (C := Tryd.checked) (os := os) (X := fun w _ => laidMetH Tryd.prog Rows.lexerDocsRow.laid w) false (World.laidAll Tryd.prog os Rows.lexerDocsRow.laid) #[.string ⟨#[]⟩, .string ⟨#[]⟩, .agg #[.int .i64 0, .bool false]] 8 (World.laidAll_os _ _ _)
      (World.shaped_of_ZipB (by kernel_rfl) (by kernel_rfl)) (by kernel_rfl) (by kernel_rfl) (by kernel_rfl)
      (by rw [MakeChecks.laidMetH_plain _ _ _ (by kernel_rfl)]; exact laidMet_laidAll _ (by kernel_rfl) (by kernel_rfl))) ?_
  intro W base args ds gs before hval0 hW hcnd _ hL _
  have hval : ∀ (j : Nat) t v, Tryd.f4.params[j]? = some t → args[j]? = some v → Value.okWide Tryd.prog W .any base t v := hval0
  have hW' := hW
  obtain ⟨p, q, hA0, hV, rfl, hfz, hnd⟩ := hW
  have hA : DataW.TrodAll enc Tryd.prog W 0 (fun _ => true) true Tryd.f4.params.toList args.toList ds p := hA0
  rw [Tryd.params4] at hA hval
  obtain ⟨v0, vs0, d0, ds0, p0, q0, hargs, rfl, rfl, h0, r0⟩ := trodAll_cons hA
  obtain ⟨v1, vs1, d1, ds1, p1, q1, rfl, rfl, rfl, h1, r1⟩ := trodAll_cons r0
  obtain ⟨v2, vs2, d2, ds2, p2, q2, rfl, rfl, rfl, h2, r2⟩ := trodAll_cons r1
  obtain ⟨rfl, rfl, rfl⟩ := trodAll_nil r2
  obtain rfl : args = #[v0, v1, v2] := by cases args; simp_all
  obtain ⟨rfl, rfl⟩ := trodVars_none hV
  obtain ⟨s0, rfl, rfl, rfl, w0⟩ := open_string Tryd.underlying9 (hval 0 9 v0 rfl rfl) h0
  obtain ⟨s1, rfl, rfl, rfl, w1⟩ := open_string Tryd.underlying9 (hval 1 9 v1 rfl rfl) h1
  obtain ⟨a2, b2, rfl, rfl, rfl, w2⟩ := open_ib Tryd.underlying36 (by kernel_rfl) cells_in11 Tryd.underlying3 Tryd.underlying4 (hval 2 36 v2 rfl rfl) h2
  clear hA0 hval0
  refine (walk s0 s1 a2 b2 W (by unfold maxLen at w0; omega) (by unfold maxLen at w1; omega) (i64_of w2)).mono fun e W' ⟨he, bel⟩ => ?_
  subst he
  exact ⟨_, rfl, _, _, _, [], _, [], hW', trodAll_mk1 (shut_bool Tryd.underlying4 _), (trodAll_cons_mk (shut_string Tryd.underlying9 w0) (trodAll_cons_mk (shut_string Tryd.underlying9 w1) (trodAll_cons_mk (shut_ib Tryd.underlying36 (by kernel_rfl) cells_in11 Tryd.underlying3 Tryd.underlying4 w2) trodAll_mk0))), rfl, bel.frame _, fun h => by cases h⟩

theorem over : Rows.lexerDocsRow.holds Tryd.pinned (OpenSpec.ofChange Rows.lexerDocsSpec) :=
  OpenClaim.holds_of_wide 4 Tryd.f4 rfl rfl rfl rfl rfl rfl rfl ⟨rfl, rfl, rfl, rfl, rfl⟩ rfl rfl rfl rfl rfl (by kernel_rfl) Tryd.func4 (by kernel_rfl)
    (of_decide_eq_true (by kernel_rfl)) (by unfold Func.isWrapper; first | (rw [if_pos (by decide +kernel)]; kernel_rfl) | (rw [if_neg (by decide +kernel)]; exact ⟨rfl, rfl⟩))
    (fun os started H enc _ => lifted os started H enc)

theorem proved : Rows.LexerDocsCardSaid :=
  Claim7.holds_tied_plain_at .later [] [.data, .pinned] true (true, "4c79555ad02daef53123237e431fdc6bc5e59d07fbb8e17f724265a7ee9d4d92") false over (fun _ h => by cases h) (by kernel_rfl) (fun _ h => by cases h) lexerDocs_row_tie rfl ⟨rfl, rfl⟩ (by kernel_rfl) rfl
    (fun f fn hf hfn => by
      obtain rfl : f = 4 := Option.some.inj ((show Tryd.prog.funcNamed "whelk/whelklaw11.LexerDocs" = some 4 by kernel_rfl).symm.trans hf) |>.symm
      obtain rfl : fn = Tryd.f4 := (Option.some.inj (Tryd.func4.symm.trans hfn)).symm
      exact ⟨by kernel_rfl, fun j t ht => by
        rw [Tryd.params4] at ht
        have hm : t ∈ [9, 9, 36] := by simpa using Array.mem_of_getElem? ht
        have hall : ([9, 9, 36].all fun u => !Tryd.prog.wantsStandIn u) = true := by kernel_rfl
        exact (show Tryd.prog.wantsStandIn t = false by simpa using List.all_eq_true.1 hall t hm)⟩)
    (by kernel_rfl)
#print axioms proved
end Go.Proofs.YtlhkochpokhncaaDoor.lexerDocs
