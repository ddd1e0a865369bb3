/- StateNil: a nil state knows nothing. (printed by gen_stnl.py) -/
import Derived.Test.YtlmjidandjemjaaGreatDoorStNk
import Derived.Test.YtlmjidandjemjaaGreatDoorTie
import Derived.Test.YtlmjidandjemjaaGreatDoorCards
import Derived.SevenTiedAt
import Derived.Stop.Joined
namespace Go.Proofs.YtlmjidandjemjaaGreatDoor.stateNil
open Go.ChangeShapes Go.WideShapes Go.ChangeAt Go.RowKit Go.Proofs.YtlmjidandjemjaaGreatDoor Go.Proofs.YtlmjidandjemjaaGreatDoor.Hp Go.Proofs.YtlmjidandjemjaaGreatDoor.Undo Go.Proofs.YtlmjidandjemjaaGreatDoor.State Go.ChangeMaps
set_option linter.unusedVariables false
attribute [local go_sem] Oper.semAt_some

theorem fin_true {W w1 w2 : World} (h1 : Ran W w1) (hs : Sat w2 (keep W)) (h2 : Ran w1 w2) : Below W.heap.size W w2 := Ran.whole' (Below.trans h1 h2) hs
set_option maxRecDepth 100000 in
set_option maxHeartbeats 4000000 in
theorem few_any (l : List Opr) (ao : Option Addr) (cap : Nat) (w : World) (hl : OpsAt w ao l) :
    Calls Tryz.prog 13 #[.slice ao l.length cap] w (FewSays l w) := by
  by_cases h : l.length ≤ 9223372036854775807
  · exact few_calls l ao cap w hl h
  · have h50I : (50 : Int) < l.length := by omega
    clear h hl
    go_enter Tryz.func13, Tryz.ntmps13
    go_wp2_with fail
    go_ret
    exact ⟨⟨false, rfl, fun h => by cases h⟩, rfl⟩
def Rel (l : List Opr) (W : World) (g : Nat) (v5 v6 : Value) (wr : World) : Prop :=
  ∃ i : Nat, v5 = .int .i64 (i : Int) ∧ i + g = l.length ∧ Sat wr (keep W) ∧ Ran W wr
set_option maxRecDepth 100000 in
set_option maxHeartbeats 16000000 in
theorem walk (ao : Option Addr) (cap : Nat) (l : List Opr) (W : World) (hl : OpsAt W ao l) (hg : Glob (keep W)) :
    Calls Tryz.prog 5 #[.slice ao l.length cap] W fun e w' => e = .returned (.bool true) ∧ Below W.heap.size W w' := by
  have HF := Lib.hid (few_any l ao cap W hl)
  have HA := Lib.hid (fun w hw => awake_calls w (keep W) hg hw)
  have HL := Lib.hid hl
  clear hl hg
  go_enter Tryz.func5, Tryz.ntmps5
  go_wp2_with fail
  refine HF.out.mono ?_
  rintro e w1 ⟨⟨r, rfl, hr⟩, rfl⟩
  clear HF
  cases r with
  | false =>
    have hA := Lib.hid (HA.out W (Sat.start W))
    clear hr
    go_wp2_with fail
    refine hA.out.mono ?_
    rintro e w9 ⟨⟨rfl, h2⟩, h3⟩
    have h2 := Lib.hid h2
    have h3 := Lib.hid h3
    clear hA
    go_wp2_with fail
    go_ret
    exact ⟨rfl, fin_true (Below.refl 0 W) h2.out h3.out⟩
  | true =>
    have HFw := Lib.hid (hr rfl)
    clear hr
    go_wp2_with fail
    go_loopg [5, 6] (l.length) (Rel l W)
    case atStart => exact ⟨0, rfl, by omega, Sat.start W, Below.refl 0 W⟩
    case round =>
      obtain ⟨i, rfl, hgk, HSi, HRi⟩ := hrel
      by_cases hlt : i < l.length
      · have hltI : (i : Int) < l.length := by omega
        have h50 : l.length ≤ 50 := HFw.out.1
        have hi0 : (0 : Int) ≤ i := by omega
        obtain ⟨op, hope⟩ : ∃ op, op = l[i] := ⟨_, rfl⟩
        have hfo : FewO op := by rw [hope]; exact HFw.out.2 _ (List.getElem_mem hlt)
        obtain ⟨okx, b, o, rfl, hbW, o0, o1, o2, o3, o4⟩ := HL.out i hlt
        rw [← hope] at okx o0 o1 o2 o3 o4
        have HopA := Lib.hid (fun (W' : World) (hk : ∀ k, k < W.heap.size → W'.heap[k]? = W.heap[k]?) => (And.intro ((World.cell?_of_block (w := W) (hk b hbW)).trans o0) (And.intro ((World.cell?_of_block (w := W) (hk b hbW)).trans o1) (And.intro ((World.cell?_of_block (w := W) (hk b hbW)).trans o2) (And.intro ((World.cell?_of_block (w := W) (hk b hbW)).trans o3) ((World.cell?_of_block (w := W) (hk b hbW)).trans o4)))) : W'.cell? ⟨b, o + i * 5, none⟩ = some (.int .i64 op.ask) ∧ W'.cell? ⟨b, o + i * 5 + 1, none⟩ = some (.string op.k) ∧ W'.cell? ⟨b, o + i * 5 + 2, none⟩ = some (.string op.t) ∧ W'.cell? ⟨b, o + i * 5 + 3, none⟩ = some (.int .i64 op.n) ∧ W'.cell? ⟨b, o + i * 5 + 4, none⟩ = some (.slice op.p op.L.length op.c)))
        have HD := does_nil op wr okx.1 hfo.2.1 okx.2.2.2.1
        obtain ⟨o0, o1, o2, o3, o4⟩ := HopA.out wr HSi.kept
        have Hok := Lib.hid okx.1
        have HS0 := Lib.hid HSi
        have HR0 := Lib.hid HRi
        clear hope hfo okx HSi HRi hbW
        by_cases h15 : askI op = 15
        · have hE : nilE op = 0 := if_pos h15
          rw [hE] at HD
          have HD := Lib.hid HD
          have H15 := Lib.hid h15
          clear hE h15
          go_wp2_with fail
          refine HD.out.mono ?_
          rintro e w4 ⟨rfl, hB4⟩
          have S4 := HS0.out.below hB4
          have R4 := Lib.hid (Below.trans HR0.out (hB4.mono (Nat.zero_le _)))
          have HAk := ask_calls op w4 Hok.out
          rw [H15.out] at HAk
          have HAk := Lib.hid HAk
          clear o0 o1 o2 o3 o4
          obtain ⟨o0, o1, o2, o3, o4⟩ := HopA.out w4 S4.kept
          have S4 := Lib.hid S4
          clear hB4 HD HS0 HR0
          go_wp2_with fail
          refine HAk.out.mono ?_
          rintro e w5 ⟨rfl, hB5⟩
          have S5 := Lib.hid (S4.out.below hB5)
          have R5 := Lib.hid (Below.trans R4.out (hB5.mono (Nat.zero_le _)))
          clear hB5 HAk S4 R4 o0 o1 o2 o3 o4
          go_wp2_with fail
          go_roundg (gk - 1)
          case rel => exact ⟨i + 1, by simp, by omega, S5.out, R5.out⟩
          case measure => omega
        · have hE : nilE op = 2 := if_neg h15
          rw [hE] at HD
          have HD := Lib.hid HD
          clear hE h15
          go_wp2_with fail
          refine HD.out.mono ?_
          rintro e w4 ⟨rfl, hB4⟩
          have S4 := Lib.hid (HS0.out.below hB4)
          have R4 := Lib.hid (Below.trans HR0.out (hB4.mono (Nat.zero_le _)))
          clear hB4 HD HS0 HR0 o0 o1 o2 o3 o4
          go_wp2_with fail
          go_roundg (gk - 1)
          case rel => exact ⟨i + 1, by simp, by omega, S4.out, R4.out⟩
          case measure => omega
      · have hge : i = l.length := by omega
        subst hge
        have h50 := HFw.out.1
        have HS0 := Lib.hid HSi
        have HR0 := Lib.hid HRi
        have HNw := Lib.hid (New_nil wr)
        have HCu := Lib.hid (Cursor_nil wr)
        clear HSi HRi
        go_wp2_with fail
        refine HNw.out.mono ?_
        rintro e w1 ⟨rfl, rfl⟩
        clear HNw
        go_wp2_with fail
        refine HCu.out.mono ?_
        rintro e w2 ⟨rfl, hB2⟩
        have S2 := HS0.out.below hB2
        have R2 := Lib.hid (Below.trans HR0.out (hB2.mono (Nat.zero_le _)))
        have HNd := Lib.hid (nameds_calls l ao cap W w2 emp HL.out (by omega) (by rw [emp_sep]; exact S2))
        clear HCu hB2 HS0 HR0 S2
        go_wp2_with fail
        refine HNd.out.mono ?_
        rintro e w3 ⟨⟨p, pc, rfl, S3⟩, R3⟩
        have R3 := Lib.hid (Below.trans R2.out R3)
        have HTo := Lib.hid (told_nil (l.map fun o => sv o.k) (fun v hv => by obtain ⟨o, -, rfl⟩ := List.mem_map.1 hv; exact ⟨_, rfl⟩) p l.length pc (by rw [List.length_map]) (by omega) w3 _ S3)
        clear HNd S3 R2
        go_wp2_with fail
        refine HTo.out.mono ?_
        rintro e w4 ⟨⟨p4, c4, rfl, S4⟩, R4⟩
        have R4 := Lib.hid (Below.trans R3.out R4)
        have HSt := Lib.hid (Status_nil w4)
        have hA := Lib.hid (HA.out w4 S4.right)
        clear HTo S4 R3
        go_wp2_with fail
        refine HSt.out.mono ?_
        rintro e w5 ⟨rfl, rfl⟩
        clear HSt
        go_wp2_with fail
        refine hA.out.mono ?_
        rintro e w9 ⟨⟨rfl, h2⟩, h3⟩
        have h2 := Lib.hid h2
        have h3 := Lib.hid h3
        clear hA
        go_wp2_with fail
        go_ret
        exact ⟨rfl, fin_true R4.out h2.out h3.out⟩
theorem own : ownKnob Tryz.prog.godebug = none := by kernel_rfl
theorem laidOut : laidOutB Tryz.prog = true := by kernel_rfl

set_option maxRecDepth 100000 in
theorem lifted (os : Os) (started : os.Started) (H : Type) (enc : TypeId × Value → H) :
    ReturnsInHanded {} Tryz.checked os 5 .any (fun w args => (Rows.stateNilSpec.pre enc Tryz.prog Tryz.f5 Rows.stateNilRow.domain false w args ∧ laidMetH Tryz.prog Rows.stateNilRow.laid w) ∧ sizedMet enc Tryz.prog Tryz.f5 (OpenSpec.ofChange Rows.stateNilSpec) false w args) (Rows.stateNilSpec.post enc Tryz.prog Tryz.f5 false true false false) := by
  refine handed_shaped (C := Tryz.checked) (X := fun w _ => laidMetH Tryz.prog Rows.stateNilRow.laid w) (fun _ _ _ hh h => h.of_heap hh) own started (by kernel_rfl) Tryz.func5
    (ChangeSpec.witness_shaped (enc := enc) (C := Tryz.checked) (os := os) (X := fun w _ => laidMetH Tryz.prog Rows.stateNilRow.laid w) false (World.laidAll Tryz.prog os Rows.stateNilRow.laid) #[.slice none 0 0] 8 (World.laidAll_os _ _ _)
      (World.shaped_of_ZipB (by kernel_rfl) (by kernel_rfl)) (by kernel_rfl) (by kernel_rfl) (by kernel_rfl)
      (by rw [MakeChecks.laidMetH_plain _ _ _ (by kernel_rfl)]; exact laidMet_laidAll _ (by kernel_rfl) (by kernel_rfl))) ?_
  intro W base args ds gs before hval0 hW hcnd _ hL hsh
  have hval : ∀ (j : Nat) t v, Tryz.f5.params[j]? = some t → args[j]? = some v → Value.okWide Tryz.prog W .any base t v := hval0
  have hW' := hW
  obtain ⟨p, q, hA0, hV, rfl, hfz, hnd⟩ := hW
  have hA : DataW.TrodAll enc Tryz.prog W 0 (fun _ => true) true Tryz.f5.params.toList args.toList ds p := hA0
  rw [Tryz.params5] at hA hval
  obtain ⟨v0, vs0, d0, ds0, p0, q0, hargs, rfl, rfl, h0, r0⟩ := trodAll_cons hA
  obtain ⟨rfl, rfl, rfl⟩ := trodAll_nil r0
  obtain rfl : args = #[v0] := by cases args; simp_all
  obtain ⟨rfl, rfl⟩ := trodVars_none hV
  have k0 := h0
  have lt0 : ∀ x ∈ p0, x.block < W.heap.size := by obtain ⟨m, hm⟩ := k0; exact DataW.trod_lt m _ _ _ hm
  obtain ⟨ao0, l0, cap0, rfl, w0⟩ := ops_open (hval 0 33 v0 rfl rfl) h0
  clear hA0 hval0
  refine (walk ao0 cap0 l0 W w0 (glob_keep hsh)).mono fun e W' ⟨he, bel⟩ => ?_
  subst he
  exact ⟨_, rfl, _, _, _, [], _, [], hW', trodAll_mk1 (shut_bool Tryz.underlying4 _), (trodAll_cons_mk (Below.trod laidOut (by kernel_rfl) (of_decide_eq_true (by kernel_rfl)) k0 bel lt0) trodAll_mk0), rfl, bel.frame _, fun h => by cases h⟩

theorem over : Rows.stateNilRow.holds Tryz.pinned (OpenSpec.ofChange Rows.stateNilSpec) :=
  OpenClaim.holds_of_wide 5 Tryz.f5 rfl rfl rfl rfl rfl rfl rfl ⟨rfl, rfl, rfl, rfl, rfl⟩ rfl rfl rfl rfl rfl (by kernel_rfl) Tryz.func5 (by kernel_rfl)
    (of_decide_eq_true (by kernel_rfl)) (by unfold Func.isWrapper; first | (rw [if_pos (by decide +kernel)]; kernel_rfl) | (rw [if_neg (by decide +kernel)]; exact ⟨rfl, rfl⟩))
    (fun os started H enc _ => lifted os started H enc)

theorem proved : Rows.StateNilCardSaid :=
  Claim7.holds_tied_plain_at .later [] [.data, .pinned] true (true, "83f1ec9fe5598e44ca1373aaa29f11eda85e46993f0c38abd82652bee74b7ab8") false over (fun _ h => by cases h) (by kernel_rfl) (fun _ h => by cases h) stateNil_row_tie rfl ⟨rfl, rfl⟩ (by kernel_rfl) rfl
    (fun f fn hf hfn => by
      obtain rfl : f = 5 := Option.some.inj ((show Tryz.prog.funcNamed "whelk/whelklaw10.StateNil" = some 5 by kernel_rfl).symm.trans hf) |>.symm
      obtain rfl : fn = Tryz.f5 := (Option.some.inj (Tryz.func5.symm.trans hfn)).symm
      exact ⟨by kernel_rfl, fun j t ht => by
        rw [Tryz.params5] at ht
        have hm : t ∈ [33] := by simpa using Array.mem_of_getElem? ht
        have hall : ([33].all fun u => !Tryz.prog.wantsStandIn u) = true := by kernel_rfl
        exact (show Tryz.prog.wantsStandIn t = false by simpa using List.all_eq_true.1 hall t hm)⟩)
    (by kernel_rfl)
#print axioms proved
end Go.Proofs.YtlmjidandjemjaaGreatDoor.stateNil
