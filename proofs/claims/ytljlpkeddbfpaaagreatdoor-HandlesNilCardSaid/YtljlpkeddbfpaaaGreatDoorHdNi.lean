/- HandlesNil: a nil table, and one of nothing, has nothing. -/
import Derived.Test.YtljlpkeddbfpaaaGreatDoorHdDo
import Derived.Test.YtljlpkeddbfpaaaGreatDoorHdNa
import Derived.Test.YtljlpkeddbfpaaaGreatDoorTie
import Derived.Test.YtljlpkeddbfpaaaGreatDoorCards
import Derived.SevenTiedAt
import Derived.Stop.Joined
namespace Go.Proofs.YtljlpkeddbfpaaaGreatDoor.handlesNil
open Go.ChangeShapes Go.WideShapes Go.ChangeAt Go.RowKit Go.Proofs.YtljlpkeddbfpaaaGreatDoor Go.Proofs.YtljlpkeddbfpaaaGreatDoor.Hp Go.Proofs.YtljlpkeddbfpaaaGreatDoor.Hd Go.ChangeMaps
set_option linter.unusedVariables false
attribute [local go_sem] Oper.semAt_some

theorem fin_true {W w1 w2 : World} (h1 : Ran W w1) (hs : Sat w2 (keep W)) (h2 : Ran w1 w2) : Below W.heap.size W w2 := Ran.whole' (Below.trans h1 h2) hs
def NilQ (w : World) (n : Int) (s : ByteArray) (er : Int) (w' : World) : Prop := n = 0 ∧ s = ⟨#[]⟩ ∧ er = 2 ∧ Below w.heap.size w w'
theorem two (w : World) (o1 o2 : Obj) : Below w.heap.size w ((w.alloc o1).alloc o2) := ((Below.refl _ w).alloc (Nat.le_refl _) o1).alloc (by rw [World.size_alloc]; omega) o2
theorem after {w w1 w' : World} (h : Below w.heap.size w w1) (h' : Below w1.heap.size w1 w') : Below w.heap.size w w' := h.trans (h'.mono h.size)
theorem does_nil (o : Opr) (w : World) : Calls Tryz.prog 22 #[worldV nilP nilP nilP, opA o] w fun e w' => ∃ (n : Int) (s : ByteArray) (er : Int), e = .returned (.tuple #[.int .i64 n, .string s, .int .i64 er]) ∧ NilQ w n s er w' := by
  have h2 := two w (woO nilP nilP nilP) (opO o)
  rcases askI_cases o with ha | ha | ha | ha | ha | ha | ha | ha
  · exact does_File o _ _ _ w (NilQ w) ha ((File_nil _ _ _).mono fun e w' h => ⟨_, _, h.1, rfl, rfl, rfl, after h2 h.2⟩)
  · exact does_Text o _ _ _ w (NilQ w) ha ((Text_nil _ _).mono fun e w' h => ⟨_, _, h.1, rfl, rfl, rfl, h.2 ▸ h2⟩)
  · exact does_Sink o _ _ _ w (NilQ w) ha ((Sink_nil _ _).mono fun e w' h => ⟨_, _, h.1, rfl, rfl, rfl, h.2 ▸ h2⟩)
  · exact does_Pipe o _ _ _ w (NilQ w) ha ((Pipe_nil _).mono fun e w' h => ⟨0, 0, 2, h.1, by omega, by omega, rfl, rfl, rfl, h.2 ▸ h2⟩)
  · exact does_Ref o _ _ _ w (NilQ w) ha ((Ref_nil _ _).mono fun e w' h => ⟨_, h.1, rfl, rfl, rfl, h.2 ▸ h2⟩)
  · exact does_Unref o _ _ _ w (NilQ w) ha ((Unref_nil _ _).mono fun e w' h => ⟨_, h.1, rfl, rfl, rfl, h.2 ▸ h2⟩)
  · exact does_Read o _ _ _ w (NilQ w) ha ((Read_nil _ _ _).mono fun e w' h => ⟨_, _, h.1, rfl, rfl, rfl, h.2 ▸ h2⟩)
  · exact does_Write o _ _ _ w (NilQ w) ha ((Write_nil _ _ _).mono fun e w' h => ⟨_, h.1, rfl, rfl, rfl, h.2 ▸ h2⟩)
def Rel (l : List Opr) (W : World) (wb : Nat) (g : Nat) (v4 : Value) (wr : World) : Prop :=
  ∃ i : Nat, v4 = .int .i64 (i : Int) ∧ i + g = l.length ∧ Sat wr (pts wb (woO nilP nilP nilP) * keep W) ∧ Ran W wr
set_option maxRecDepth 100000 in
set_option maxHeartbeats 16000000 in
theorem walk (ao : Option Addr) (cap : Nat) (l : List Opr) (W : World) (hl : OpsAt W ao l) :
    Calls Tryz.prog 6 #[.slice ao l.length cap] W fun e w' => e = .returned (.bool true) ∧ Below W.heap.size W w' := by
  have HF := Lib.hid (few_calls l ao cap W hl)
  have HA := Lib.hid (fun w hw => awake_calls w (keep W) hw)
  have HL := Lib.hid hl
  clear hl
  have S1 := (Sat.start W).alloc (woO nilP nilP nilP)
  have R1 := Lib.hid (Ran.new (Below.refl 0 W) (woO nilP nilP nilP))
  obtain ⟨wb, hwb⟩ : ∃ b, b = W.heap.size := ⟨_, rfl⟩
  obtain ⟨w2, hw2⟩ : ∃ w2, w2 = W.alloc (woO nilP nilP nilP) := ⟨_, rfl⟩
  rw [← hwb, ← hw2] at S1
  rw [← hw2] at R1
  have S1 := Lib.hid S1
  go_enter Tryz.func6, Tryz.ntmps6
  go_wp2_with fail
  refine HF.out.mono ?_
  rintro e w1 ⟨⟨r, rfl, hr⟩, rfl⟩
  clear HF
  cases r with
  | false =>
    have hA := Lib.hid (HA.out W (Sat.start W))
    clear hr hwb hw2 S1 R1
    go_wp2_with fail
    refine hA.out.mono ?_
    rintro e w9 ⟨⟨rfl, h2⟩, h3⟩
    have h2 := Lib.hid h2
    have h3 := Lib.hid h3
    clear hA
    go_wp2_with fail
    go_ret
    exact ⟨rfl, fin_true (Below.refl 0 W) h2.out h3.out⟩
  | true =>
    have HFw := Lib.hid (hr rfl)
    clear hr
    go_upto_region 4 with fail
    rw [← hwb, ← hw2]
    clear hwb hw2
    go_wp2_with fail
    go_loopg [4, 5, 6, 7] (l.length) (fun (g : Nat) (v4 v5 v6 v7 : Value) (wr : World) => Rel l W wb g v4 wr)
    case atStart => exact ⟨0, rfl, by omega, S1.out, R1.out⟩
    case round =>
      clear S1 R1
      obtain ⟨i, rfl, hgk, HSi, HRi⟩ := hrel
      by_cases hlt : i < l.length
      · have hltI : (i : Int) < l.length := by omega
        have h40 : l.length ≤ 40 := HFw.out.1
        have hi0 : (0 : Int) ≤ i := by omega
        obtain ⟨op, hope⟩ : ∃ op, op = l[i] := ⟨_, rfl⟩
        obtain ⟨okx, b, o, rfl, hbW, hop⟩ := HL.out i hlt
        rw [← hope] at okx hop
        have HopA := Lib.hid (fun (W' : World) (hk : ∀ k, k < W.heap.size → W'.heap[k]? = W.heap[k]?) => hop.keep (hk b hbW))
        have HD := Lib.hid (does_nil op wr.drew)
        obtain ⟨o0, o1, o2, o3, o4, o5, o6, o7⟩ := HopA.out wr.drew HSi.drew.right.kept
        obtain ⟨c0, c1, c2⟩ := wo_cells HSi.drew
        have HS0 := Lib.hid HSi
        have HR0 := Lib.hid HRi
        obtain ⟨oa, oi, on, om, ⟨mr, mw, mm⟩, od⟩ := op
        dsimp only at o0 o1 o2 o3 o4 o5 o6 o7 HD
        clear hope okx HSi HRi hbW hop
        go_upto_region 7 with fail
        refine Go.Proofs.YtljlpkeddbfpaaaGreatDoor.region_plan (S := (fun w' => w'.cell? ⟨wb, 0, none⟩ = some (.pointer none) ∧ w'.cell? ⟨wb, 1, none⟩ = some (.pointer none) ∧ w'.cell? ⟨wb, 2, none⟩ = some (.pointer none) ∧ w'.cell? ⟨b, o + i * 8, none⟩ = some (.int .i64 oa) ∧ w'.cell? ⟨b, o + i * 8 + 1, none⟩ = some (.int .i64 oi) ∧ w'.cell? ⟨b, o + i * 8 + 2, none⟩ = some (.int .i64 on) ∧ w'.cell? ⟨b, o + i * 8 + 3, none⟩ = some (.int .i64 om) ∧ w'.cell? ⟨b, o + i * 8 + 4, none⟩ = some (.bool mr) ∧ w'.cell? ⟨b, o + i * 8 + 5, none⟩ = some (.bool mw) ∧ w'.cell? ⟨b, o + i * 8 + 6, none⟩ = some (.bool mm) ∧ w'.cell? ⟨b, o + i * 8 + 7, none⟩ = some (.string od))) [(0, true), (1, true), (2, true), (3, true), (4, true), (5, false), (6, true), (7, true), (8, true), (9, true), (10, true), (11, true), (12, true)] (by kernel_rfl) (by kernel_rfl) (by kernel_rfl) ?_ ?_
        · ((try dsimp only); (first | done | (first | exact ⟨c0, c1, c2, o0, o1, o2, o3, o4, o5, o6, o7⟩ | exact K5)))
        simp only [Go.Proofs.YtljlpkeddbfpaaaGreatDoor.planOps, List.map_cons, List.map_nil, List.getElem?_toArray, List.getElem?_cons_zero, List.getElem?_cons_succ]
        repeat (first
          | ((refine Go.Proofs.YtljlpkeddbfpaaaGreatDoor.plan_yes (v := ?_) (by rfl) ?_ ?_); rotate_left; (focus (intro w hSw; (try dsimp only at hSw); go_simp; try (with_reducible rfl))); (try simp only [Act.put, List.setIfInBounds_toArray, List.set_cons_zero, List.set_cons_succ]))
          | ((refine Go.Proofs.YtljlpkeddbfpaaaGreatDoor.plan_no (by rfl) ?_); (try simp only [Act.put, List.setIfInBounds_toArray, List.set_cons_zero, List.set_cons_succ]))
          | ((refine Go.Proofs.YtljlpkeddbfpaaaGreatDoor.plan_step (fun K hK => ?_)); (first | ((go_at_call 22; refine HD.out.mono ?_; rintro e w5 ⟨n, s, er, rfl, rfl, rfl, rfl, hB5⟩; have S5 := HS0.out.drew.below hB5; have R5 := Below.trans (Ran.drewN HR0.out 1) (hB5.mono (Nat.zero_le _)); have K5 := And.intro (wo_cells S5).1 (And.intro (wo_cells S5).2.1 (And.intro (wo_cells S5).2.2 (HopA.out w5 S5.right.kept))); clear hB5)) | (go_simp; ((go_at_call 22; refine HD.out.mono ?_; rintro e w5 ⟨n, s, er, rfl, rfl, rfl, rfl, hB5⟩; have S5 := HS0.out.drew.below hB5; have R5 := Below.trans (Ran.drewN HR0.out 1) (hB5.mono (Nat.zero_le _)); have K5 := And.intro (wo_cells S5).1 (And.intro (wo_cells S5).2.1 (And.intro (wo_cells S5).2.2 (HopA.out w5 S5.right.kept))); clear hB5)); (try go_wp2_with fail)) | go_simp); (refine hK.out _ _ ?_ (fun hHeld => ?_)); (focus ((try dsimp only); (first | done | (first | exact ⟨c0, c1, c2, o0, o1, o2, o3, o4, o5, o6, o7⟩ | exact K5)))); clear hK K; (try simp only [Act.put, List.setIfInBounds_toArray, List.set_cons_zero, List.set_cons_succ])))
        refine Go.Proofs.YtljlpkeddbfpaaaGreatDoor.plan_done ?_
        have S5 := Lib.hid S5
        have R5 := Lib.hid R5
        clear K5 HD HS0 HR0 o0 o1 o2 o3 o4 o5 o6 o7 c0 c1 c2
        go_wp2_with fail
        go_roundg (gk - 1)
        case rel => exact ⟨i + 1, by simp, by omega, S5.out, R5.out⟩
        case measure => omega
      · have hge : (l.length : Int) ≤ i := by omega
        have h40 : l.length ≤ 40 := HFw.out.1
        have HNw := Lib.hid (New_calls 1 1 (by omega) (by omega) (by omega) (by omega) wr _ HSi)
        have HRi := Lib.hid HRi
        clear HSi
        go_wp2_with fail
        refine HNw.out.mono ?_
        rintro e w3 ⟨⟨fb, mb, b, kb, rfl, S3⟩, R3⟩
        have S3 := S3.right
        have R3 := Lib.hid (Below.trans HRi.out R3)
        have HHn := Lib.hid (HNew_nil fb w3)
        clear HNw HRi
        go_wp2_with fail
        refine HHn.out.mono ?_
        rintro e w4 ⟨rfl, rfl⟩
        obtain ⟨c0, c1, c2⟩ := wo_cells S3
        have HSn := Lib.hid (Seen_nil 1 w3)
        clear HHn
        go_wp2_with fail
        refine HSn.out.mono ?_
        rintro e w4 ⟨rfl, rfl⟩
        have HSt := Lib.hid (TStat_nil 1 w3)
        clear HSn
        go_wp2_with fail
        refine HSt.out.mono ?_
        rintro e w4 ⟨rfl, hB4⟩
        have S4 := (S3.below hB4).alloc (inO 0 0 0 0 ⟨false, false, false⟩)
        have R4 := Lib.hid (Ran.new (Below.trans R3.out (hB4.mono (Nat.zero_le _))) (inO 0 0 0 0 ⟨false, false, false⟩))
        have S4 := S4.right
        obtain ⟨w5, hw5⟩ : ∃ w5, w5 = w4.alloc (inO 0 0 0 0 ⟨false, false, false⟩) := ⟨_, rfl⟩
        rw [← hw5] at S4 R4
        have S4 := Lib.hid S4
        have HAl := Lib.hid (All_nil w5)
        have hA := Lib.hid (HA.out w5 S4.out.right)
        clear HSt c0 c1 c2 S3 R3 hB4
        go_upto_region 14 with fail
        rw [← hw5]
        clear hw5
        obtain ⟨c0, c1, c2⟩ := wo_cells S4.out
        go_wp2_with fail
        refine HAl.out.mono ?_
        rintro e w6 ⟨rfl, rfl⟩
        clear HAl
        go_wp2_with fail
        refine hA.out.mono ?_
        rintro e w9 ⟨⟨rfl, h2⟩, h3⟩
        have h2 := Lib.hid h2
        have h3 := Lib.hid h3
        clear hA
        go_wp2_with fail
        go_ret
        exact ⟨rfl, fin_true R4.out h2.out h3.out⟩
theorem own : ownKnob Tryz.prog.godebug = none := by kernel_rfl
theorem laidOut : laidOutB Tryz.prog = true := by kernel_rfl

set_option maxRecDepth 100000 in
theorem lifted (os : Os) (started : os.Started) (H : Type) (enc : TypeId × Value → H) :
    ReturnsInHanded {} Tryz.checked os 6 .any (fun w args => (Rows.handlesNilSpec.pre enc Tryz.prog Tryz.f6 Rows.handlesNilRow.domain false w args ∧ laidMetH Tryz.prog Rows.handlesNilRow.laid w) ∧ sizedMet enc Tryz.prog Tryz.f6 (OpenSpec.ofChange Rows.handlesNilSpec) false w args) (Rows.handlesNilSpec.post enc Tryz.prog Tryz.f6 false true false false) := by
  refine returnsInHanded_of_change_and (C := Tryz.checked) (X := fun w _ => laidMetH Tryz.prog Rows.handlesNilRow.laid w) (fun _ _ _ hh h => h.of_heap hh) own started (by kernel_rfl) Tryz.func6
    (ChangeSpec.witness_shaped (enc := enc) (C := Tryz.checked) (os := os) (X := fun w _ => laidMetH Tryz.prog Rows.handlesNilRow.laid w) false (World.laidAll Tryz.prog os Rows.handlesNilRow.laid) #[.slice none 0 0] 8 (World.laidAll_os _ _ _)
      (World.shaped_of_ZipB (by kernel_rfl) (by kernel_rfl)) (by kernel_rfl) (by kernel_rfl) (by kernel_rfl)
      (by rw [MakeChecks.laidMetH_plain _ _ _ (by kernel_rfl)]; exact laidMet_laidAll _ (by kernel_rfl) (by kernel_rfl))) ?_
  intro W base args ds gs before hval0 hW hcnd _ hL _
  have hval : ∀ (j : Nat) t v, Tryz.f6.params[j]? = some t → args[j]? = some v → Value.okWide Tryz.prog W .any base t v := hval0
  have hW' := hW
  obtain ⟨p, q, hA0, hV, rfl, hfz, hnd⟩ := hW
  have hA : DataW.TrodAll enc Tryz.prog W 0 (fun _ => true) true Tryz.f6.params.toList args.toList ds p := hA0
  rw [Tryz.params6] at hA hval
  obtain ⟨v0, vs0, d0, ds0, p0, q0, hargs, rfl, rfl, h0, r0⟩ := trodAll_cons hA
  obtain ⟨rfl, rfl, rfl⟩ := trodAll_nil r0
  obtain rfl : args = #[v0] := by cases args; simp_all
  obtain ⟨rfl, rfl⟩ := trodVars_none hV
  have k0 := h0
  have lt0 : ∀ x ∈ p0, x.block < W.heap.size := by obtain ⟨m, hm⟩ := k0; exact DataW.trod_lt m _ _ _ hm
  obtain ⟨ao0, l0, cap0, rfl, w0⟩ := ops_open (hval 0 52 v0 rfl rfl) h0
  clear hA0 hval0
  refine (walk ao0 cap0 l0 W w0).mono fun e W' ⟨he, bel⟩ => ?_
  subst he
  exact ⟨_, rfl, _, _, _, [], _, [], hW', trodAll_mk1 (shut_bool Tryz.underlying4 _), (trodAll_cons_mk (Below.trod laidOut (by kernel_rfl) (of_decide_eq_true (by kernel_rfl)) k0 bel lt0) trodAll_mk0), rfl, bel.frame _, fun h => by cases h⟩

theorem over : Rows.handlesNilRow.holds Tryz.pinned (OpenSpec.ofChange Rows.handlesNilSpec) :=
  OpenClaim.holds_of_wide 6 Tryz.f6 rfl rfl rfl rfl rfl rfl rfl ⟨rfl, rfl, rfl, rfl, rfl⟩ rfl rfl rfl rfl rfl (by kernel_rfl) Tryz.func6 (by kernel_rfl)
    (of_decide_eq_true (by kernel_rfl)) (by unfold Func.isWrapper; first | (rw [if_pos (by decide +kernel)]; kernel_rfl) | (rw [if_neg (by decide +kernel)]; exact ⟨rfl, rfl⟩))
    (fun os started H enc _ => lifted os started H enc)

theorem proved : Rows.HandlesNilCardSaid :=
  Claim7.holds_tied_plain_at .later [] [.data, .pinned] true (true, "66290d1066095200cf14bc365beb6c9a74d9cfc0189b6a14515d91b2027a118d") false over (fun _ h => by cases h) (by kernel_rfl) (fun _ h => by cases h) handlesNil_row_tie rfl ⟨rfl, rfl⟩ (by kernel_rfl) rfl
    (fun f fn hf hfn => by
      obtain rfl : f = 6 := Option.some.inj ((show Tryz.prog.funcNamed "whelk/whelklaw07.HandlesNil" = some 6 by kernel_rfl).symm.trans hf) |>.symm
      obtain rfl : fn = Tryz.f6 := (Option.some.inj (Tryz.func6.symm.trans hfn)).symm
      exact ⟨by kernel_rfl, fun j t ht => by
        rw [Tryz.params6] at ht
        have hm : t ∈ [52] := by simpa using Array.mem_of_getElem? ht
        have hall : ([52].all fun u => !Tryz.prog.wantsStandIn u) = true := by kernel_rfl
        exact (show Tryz.prog.wantsStandIn t = false by simpa using List.all_eq_true.1 hall t hm)⟩)
    (by kernel_rfl)
#print axioms proved
end Go.Proofs.YtljlpkeddbfpaaaGreatDoor.handlesNil
