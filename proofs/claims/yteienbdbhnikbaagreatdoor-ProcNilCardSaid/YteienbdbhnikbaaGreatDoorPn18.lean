/- ProcNil: a nil process, and one of nothing, has nothing. -/
import Derived.Test.YteienbdbhnikbaaGreatDoorPn17
import Derived.Test.YteienbdbhnikbaaGreatDoorTie
import Derived.Test.YteienbdbhnikbaaGreatDoorCards
import Derived.SevenTiedAt
import Derived.Stop.Joined
namespace Go.Proofs.YteienbdbhnikbaaGreatDoor.procNil
open Go.ChangeShapes Go.WideShapes Go.ChangeAt Go.RowKit Go.Proofs.YteienbdbhnikbaaGreatDoor Go.Proofs.YteienbdbhnikbaaGreatDoor.Hp Go.Proofs.YteienbdbhnikbaaGreatDoor.Hd Go.Proofs.YteienbdbhnikbaaGreatDoor.Pr Go.ChangeMaps
set_option linter.unusedVariables false
attribute [local go_sem] Oper.semAt_some

theorem fin_true {W w1 w2 : World} (h1 : Ran W w1) (hs : Sat w2 (keep W)) (h2 : Ran w1 w2) : Below W.heap.size W w2 := Ran.whole' (Below.trans h1 h2) hs
def NilQ (w : World) (n : Int) (s : ByteArray) (er : Int) (w' : World) : Prop := n = 0 ∧ s = ⟨#[]⟩ ∧ er = 2 ∧ Below w.heap.size w w'
theorem three (f s t l p : Value) (o : Opr) (w : World) : Below w.heap.size w (W3 f s t l p o w) := (((Below.refl _ w).alloc (Nat.le_refl _) _).alloc (by rw [World.size_alloc]; omega) _).alloc (by rw [World.size_alloc, World.size_alloc]; omega) _
theorem does_nil (o : Opr) (f s t l : Value) (w : World) (ha : askI o ≠ 11) : Calls Tryz.prog 11 #[worldV f s t l nilP, opA o] w fun e w' => ∃ (n : Int) (s : ByteArray) (er : Int), e = .returned (.tuple #[.int .i64 n, .string s, .int .i64 er]) ∧ NilQ w n s er w' := by
  have h2 := three f s t l nilP o w
  have hcas : askI o = 0 ∨ askI o = 1 ∨ askI o = 2 ∨ askI o = 3 ∨ askI o = 4 ∨ askI o = 5 ∨ askI o = 6 ∨ askI o = 7 ∨ askI o = 8 ∨ askI o = 9 ∨ askI o = 10 := by
    unfold askI at ha ⊢
    omega
  rcases hcas with ha | ha | ha | ha | ha | ha | ha | ha | ha | ha | ha
  · exact does_Open o _ _ _ _ _ w (NilQ w) ha ((Open_nil _ _ _ _).mono fun e w' h => ⟨_, h.1, rfl, rfl, rfl, h.2 ▸ h2⟩)
  · exact does_Put o _ _ _ _ _ w (NilQ w) ha ((Put_nil _ _ _).mono fun e w' h => ⟨_, h.1, rfl, rfl, rfl, h.2 ▸ h2⟩)
  · exact does_Dup o _ _ _ _ _ w (NilQ w) ha ((Dup_nil _ _ _).mono fun e w' h => ⟨_, h.1, rfl, rfl, rfl, h.2 ▸ h2⟩)
  · exact does_Close o _ _ _ _ _ w (NilQ w) ha ((Close_nil _ _).mono fun e w' h => ⟨_, h.1, rfl, rfl, rfl, h.2 ▸ h2⟩)
  · exact does_Read o _ _ _ _ _ w (NilQ w) ha ((Read_nil _ _ _).mono fun e w' h => ⟨_, _, h.1, rfl, rfl, rfl, h.2 ▸ h2⟩)
  · exact does_Write o _ _ _ _ _ w (NilQ w) ha ((Write_nil _ _ _).mono fun e w' h => ⟨_, h.1, rfl, rfl, rfl, h.2 ▸ h2⟩)
  · exact does_Chdir o _ _ _ _ _ w (NilQ w) ha ((Chdir_nil _ _).mono fun e w' h => ⟨_, h.1, rfl, rfl, rfl, h.2 ▸ h2⟩)
  · exact does_SetMask o _ _ _ _ _ w (NilQ w) ha ((SetMask_nil _ _).mono fun e w' h => ⟨_, h.1, rfl, rfl, rfl, h.2 ▸ h2⟩)
  · exact does_Mark o _ _ _ _ _ w (NilQ w) ha ((Mark_nil _).mono fun e w' h => ⟨_, _, h.1, rfl, rfl, rfl, h.2 ▸ h2⟩)
  · exact does_MarkB o _ _ _ _ _ w (NilQ w) ha ((Mark_nil _).mono fun e w' h => ⟨_, _, h.1, rfl, rfl, rfl, h.2 ▸ h2⟩)
  · exact does_Undo o _ _ _ _ _ w (NilQ w) ha ((Undo_nil _).mono fun e w' h => ⟨_, h.1, rfl, rfl, rfl, h.2 ▸ h2⟩)
abbrev WO (a b t l : Nat) : Obj := woP (Hd.pp a) (Hd.pp b) (Hd.pp t) (Hd.pp l) nilP
set_option maxRecDepth 100000 in
set_option maxHeartbeats 16000000 in
theorem walk (ao : Option Addr) (cap : Nat) (l : List Opr) (W : World) (hl : OpsAt W ao l) (hg : Glob (keep W)) :
    Calls Tryz.prog 3 #[.slice ao l.length cap] W fun e w' => e = .returned (.bool true) ∧ Below W.heap.size W w' := by
  have HF := Lib.hid (few_calls l ao cap W hl)
  have HA := Lib.hid (fun w hw => awake_calls w (keep W) hg hw)
  have HB := Lib.hid (begun_calls 10 (by omega) (by omega) W (keep W) hg (Sat.start W))
  have HL := Lib.hid hl
  clear hl hg
  go_enter Tryz.func3, Tryz.ntmps3
  go_wp2_with fail
  refine HF.out.mono ?_
  rintro e w1 ⟨⟨r, rfl, hr⟩, rfl⟩
  clear HF
  cases r with
  | false =>
    have hA := Lib.hid (HA.out W (Sat.start W))
    clear hr HB
    go_wp2_with fail
    refine hA.out.mono ?_
    rintro e w9 ⟨⟨rfl, h2⟩, h3⟩
    have h2 := Lib.hid h2
    have h3 := Lib.hid h3
    clear hA
    go_wp2_with fail
    go_ret
    exact ⟨rfl, fin_true (Below.refl 0 W) h2.out h3.out⟩
  | true =>
    have HFw := Lib.hid (hr rfl)
    clear hr
    go_wp2_with fail
    refine HB.out.mono ?_
    rintro e w1 ⟨⟨c, p0, rfl, hl0, -, -, -, S0⟩, R0⟩
    clear HB
    have S1 := S0.right.alloc (WO c.fb c.bp c.tb p0.lb)
    have R1 := Lib.hid (Ran.new R0 (WO c.fb c.bp c.tb p0.lb))
    obtain ⟨wb, hwb⟩ : ∃ b, b = w1.heap.size := ⟨_, rfl⟩
    obtain ⟨w2, hw2⟩ : ∃ w2, w2 = w1.alloc (WO c.fb c.bp c.tb p0.lb) := ⟨_, rfl⟩
    rw [← hwb, ← hw2] at S1
    rw [← hw2] at R1
    obtain ⟨fb, hfb⟩ : ∃ x, x = c.fb := ⟨_, rfl⟩
    obtain ⟨bp, hbp⟩ : ∃ x, x = c.bp := ⟨_, rfl⟩
    obtain ⟨tb, htb⟩ : ∃ x, x = c.tb := ⟨_, rfl⟩
    obtain ⟨lb, hlb⟩ : ∃ x, x = p0.lb := ⟨_, rfl⟩
    rw [← hfb, ← hbp, ← htb, ← hlb] at S1 hw2 ⊢
    have S1 := Lib.hid S1
    clear S0 R0 hl0 hfb hbp htb hlb
    go_upto_region 8 with fail
    rw [← hwb, ← hw2]
    clear hwb hw2
    go_wp2_with fail
    go_loopg [6, 7, 8, 9] (l.length) (fun (g : Nat) (v6 v7 v8 v9 : Value) (wr : World) => ∃ i : Nat, v6 = .int .i64 (i : Int) ∧ i + g = l.length ∧ Sat wr (pts wb (WO fb bp tb lb) * keep W) ∧ Ran W wr)
    case atStart => exact ⟨0, rfl, by omega, S1.out, R1.out⟩
    case round =>
      clear S1 R1
      obtain ⟨i, rfl, hgk, HSi, HRi⟩ := hrel
      by_cases hlt : i < l.length
      · have hltI : (i : Int) < l.length := by omega
        have h50 : l.length ≤ 50 := HFw.out.1
        have hi0 : (0 : Int) ≤ i := by omega
        obtain ⟨op, hope⟩ : ∃ op, op = l[i] := ⟨_, rfl⟩
        obtain ⟨okx, b, o, rfl, hbW, hop⟩ := HL.out i hlt
        rw [← hope] at okx hop
        have HopA := Lib.hid (fun (W' : World) (hk : ∀ k, k < W.heap.size → W'.heap[k]? = W.heap[k]?) => hop.keep (hk b hbW))
        have HAk := ask_calls op wr
        have HS1 := HSi.old (opO op)
        have HR1 := Lib.hid (Ran.new HRi (opO op))
        obtain ⟨w4, hw4⟩ : ∃ w4, w4 = wr.alloc (opO op) := ⟨_, rfl⟩
        rw [← hw4] at HAk HS1 HR1
        obtain ⟨a0, a1, a2, a3, a4, a5, a6⟩ := HopA.out wr HSi.right.kept
        obtain ⟨ak, hak⟩ : ∃ k, k = askI op := ⟨_, rfl⟩
        have HD0 := does_nil op (Hd.pp fb) (Hd.pp bp) (Hd.pp tb) (Hd.pp lb) w4.drew
        rw [← hak] at HAk HD0
        have HAk := Lib.hid HAk
        obtain ⟨oa, ofd, ofr, okd, on, opt, od⟩ := op
        dsimp only at a0 a1 a2 a3 a4 a5 a6
        by_cases h11 : ak = 11
        · subst h11
          have HS1 := Lib.hid HS1
          clear hope okx hbW hop hak hw4 HD0 HSi HRi
          go_wp2_with fail
          refine HAk.out.mono ?_
          rintro e w5 ⟨rfl, rfl⟩
          clear a0 a1 a2 a3 a4 a5 a6
          go_wp2_with fail
          go_roundg (gk - 1)
          case rel => exact ⟨i + 1, by simp, by omega, HS1.out, HR1.out⟩
          case measure => omega
        · have h11b : (ak == 11) = false := by simpa using h11
          have HD := Lib.hid (HD0 h11)
          obtain ⟨o0, o1, o2, o3, o4, o5, o6⟩ := HopA.out w4.drew HS1.drew.right.kept
          obtain ⟨c0, c1, c2, c3, c4⟩ := woP_cells HS1.drew
          have HS0 := Lib.hid HS1
          dsimp only at o0 o1 o2 o3 o4 o5 o6
          clear hope okx hbW hop hak hw4 HD0 HSi HRi HS1
          go_wp2_with fail
          refine HAk.out.mono ?_
          rintro e w5 ⟨rfl, rfl⟩
          clear a0 a1 a2 a3 a4 a5 a6 HAk
          go_upto_region 12 with fail
          refine region_plan (S := (fun w' => w'.cell? ⟨wb, 0, none⟩ = some (Hd.pp fb) ∧ w'.cell? ⟨wb, 1, none⟩ = some (Hd.pp bp) ∧ w'.cell? ⟨wb, 2, none⟩ = some (Hd.pp tb) ∧ w'.cell? ⟨wb, 3, none⟩ = some (Hd.pp lb) ∧ w'.cell? ⟨wb, 4, none⟩ = some (.pointer none) ∧ w'.cell? ⟨b, o + i * 7, none⟩ = some (.int .i64 oa) ∧ w'.cell? ⟨b, o + i * 7 + 1, none⟩ = some (.int .i64 ofd) ∧ w'.cell? ⟨b, o + i * 7 + 2, none⟩ = some (.int .i64 ofr) ∧ w'.cell? ⟨b, o + i * 7 + 3, none⟩ = some (.int .i64 okd) ∧ w'.cell? ⟨b, o + i * 7 + 4, none⟩ = some (.int .i64 on) ∧ w'.cell? ⟨b, o + i * 7 + 5, none⟩ = some (.string opt) ∧ w'.cell? ⟨b, o + i * 7 + 6, none⟩ = some (.string od))) [(0, true), (1, true), (2, true), (3, true), (4, true), (5, false), (6, true), (7, true), (8, true), (9, true), (10, true), (11, true), (12, true)] (by kernel_rfl) (by kernel_rfl) (by kernel_rfl) ?_ ?_
          · ((try dsimp only); (first | done | (first | exact ⟨c0, c1, c2, c3, c4, o0, o1, o2, o3, o4, o5, o6⟩ | exact K5)))
          simp only [planOps, List.map_cons, List.map_nil, List.getElem?_toArray, List.getElem?_cons_zero, List.getElem?_cons_succ]
          repeat (first
            | ((refine plan_yes (v := ?_) (by rfl) ?_ ?_); rotate_left; (focus (intro w hSw; (try dsimp only at hSw); go_simp; try (with_reducible rfl))); (try simp only [Act.put, List.setIfInBounds_toArray, List.set_cons_zero, List.set_cons_succ]))
            | ((refine plan_no (by rfl) ?_); (try simp only [Act.put, List.setIfInBounds_toArray, List.set_cons_zero, List.set_cons_succ]))
            | ((refine plan_step (fun K hK => ?_)); (first | (go_simp; ((go_at_call 11; refine HD.out.mono ?_; rintro e w5 ⟨n, s, er, rfl, rfl, rfl, rfl, hB5⟩; have S5 := HS0.out.drew.below hB5; have R5 := Below.trans (Ran.drewN HR1.out 1) (hB5.mono (Nat.zero_le _)); have K5 := And.intro (woP_cells S5).1 (And.intro (woP_cells S5).2.1 (And.intro (woP_cells S5).2.2.1 (And.intro (woP_cells S5).2.2.2.1 (And.intro (woP_cells S5).2.2.2.2 (HopA.out w5 S5.right.kept))))); clear hB5)); (try go_wp2_with fail)) | go_simp); (refine hK.out _ _ ?_ (fun hHeld => ?_)); (focus ((try dsimp only); (first | done | (first | exact ⟨c0, c1, c2, c3, c4, o0, o1, o2, o3, o4, o5, o6⟩ | exact K5)))); clear hK K; (try simp only [Act.put, List.setIfInBounds_toArray, List.set_cons_zero, List.set_cons_succ])))
          refine plan_done ?_
          have S5 := Lib.hid S5
          have R5 := Lib.hid R5
          clear K5 HD HS0 HR1 o0 o1 o2 o3 o4 o5 o6 c0 c1 c2 c3 c4
          go_wp2_with fail
          go_roundg (gk - 1)
          case rel => exact ⟨i + 1, by simp, by omega, S5.out, R5.out⟩
          case measure => omega
      · have hge : (l.length : Int) ≤ i := by omega
        have h50 : l.length ≤ 50 := HFw.out.1
        obtain ⟨c0, c1, c2, c3, c4⟩ := woP_cells HSi
        have HNw := Lib.hid (New_nil fb tb wr)
        have HSi := Lib.hid HSi
        have HRi := Lib.hid HRi
        go_wp2_with fail
        refine HNw.out.mono ?_
        rintro e w3 ⟨rfl, hB3⟩
        have S3 := HSi.out.below hB3
        have R3 := Lib.hid (Below.trans HRi.out (hB3.mono (Nat.zero_le _)))
        have S3 := Lib.hid S3
        have HHn := Lib.hid (Handle_nil 1 w3)
        have HFn := Lib.hid (Fds_nil w3)
        have HDn := Lib.hid (Dir_nil w3)
        have HMn := Lib.hid (Mask_nil w3)
        have hA := Lib.hid (HA.out w3 S3.out.right)
        clear HNw HSi HRi hB3 c0 c1 c2 c3 c4
        go_wp2_with fail
        refine HHn.out.mono ?_
        rintro e w4 ⟨rfl, rfl⟩
        go_wp2_with fail
        refine HFn.out.mono ?_
        rintro e w4 ⟨rfl, rfl⟩
        go_wp2_with fail
        refine HDn.out.mono ?_
        rintro e w4 ⟨rfl, rfl⟩
        go_wp2_with fail
        refine HMn.out.mono ?_
        rintro e w4 ⟨rfl, rfl⟩
        go_wp2_with fail
        refine hA.out.mono ?_
        rintro e w9 ⟨⟨rfl, h2⟩, h3⟩
        have h2 := Lib.hid h2
        have h3 := Lib.hid h3
        clear hA
        go_wp2_with fail
        go_ret
        exact ⟨rfl, fin_true R3.out h2.out h3.out⟩
theorem own : ownKnob Tryz.prog.godebug = none := by kernel_rfl
theorem laidOut : laidOutB Tryz.prog = true := by kernel_rfl

set_option maxRecDepth 100000 in
theorem lifted (os : Os) (started : os.Started) (H : Type) (enc : TypeId × Value → H) :
    ReturnsInHanded {} Tryz.checked os 3 .any (fun w args => (Rows.procNilSpec.pre enc Tryz.prog Tryz.f3 Rows.procNilRow.domain false w args ∧ laidMetH Tryz.prog Rows.procNilRow.laid w) ∧ sizedMet enc Tryz.prog Tryz.f3 (OpenSpec.ofChange Rows.procNilSpec) false w args) (Rows.procNilSpec.post enc Tryz.prog Tryz.f3 false true false false) := by
  refine handed_shaped (C := Tryz.checked) (X := fun w _ => laidMetH Tryz.prog Rows.procNilRow.laid w) (fun _ _ _ hh h => h.of_heap hh) own started (by kernel_rfl) Tryz.func3
    (ChangeSpec.witness_shaped (enc := enc) (C := Tryz.checked) (os := os) (X := fun w _ => laidMetH Tryz.prog Rows.procNilRow.laid w) false (World.laidAll Tryz.prog os Rows.procNilRow.laid) #[.slice none 0 0] 8 (World.laidAll_os _ _ _)
      (World.shaped_of_ZipB (by kernel_rfl) (by kernel_rfl)) (by kernel_rfl) (by kernel_rfl) (by kernel_rfl)
      (by rw [MakeChecks.laidMetH_plain _ _ _ (by kernel_rfl)]; exact laidMet_laidAll _ (by kernel_rfl) (by kernel_rfl))) ?_
  intro W base args ds gs before hval0 hW hcnd _ hL hsh
  have hval : ∀ (j : Nat) t v, Tryz.f3.params[j]? = some t → args[j]? = some v → Value.okWide Tryz.prog W .any base t v := hval0
  have hW' := hW
  obtain ⟨p, q, hA0, hV, rfl, hfz, hnd⟩ := hW
  have hA : DataW.TrodAll enc Tryz.prog W 0 (fun _ => true) true Tryz.f3.params.toList args.toList ds p := hA0
  rw [Tryz.params3] at hA hval
  obtain ⟨v0, vs0, d0, ds0, p0, q0, hargs, rfl, rfl, h0, r0⟩ := trodAll_cons hA
  obtain ⟨rfl, rfl, rfl⟩ := trodAll_nil r0
  obtain rfl : args = #[v0] := by cases args; simp_all
  obtain ⟨rfl, rfl⟩ := trodVars_none hV
  have k0 := h0
  have lt0 : ∀ x ∈ p0, x.block < W.heap.size := by obtain ⟨m, hm⟩ := k0; exact DataW.trod_lt m _ _ _ hm
  obtain ⟨ao0, l0, cap0, rfl, w0⟩ := ops_open (hval 0 22 v0 rfl rfl) h0
  clear hA0 hval0
  refine (walk ao0 cap0 l0 W w0 (glob_keep hsh)).mono fun e W' ⟨he, bel⟩ => ?_
  subst he
  exact ⟨_, rfl, _, _, _, [], _, [], hW', trodAll_mk1 (shut_bool Tryz.underlying4 _), (trodAll_cons_mk (Below.trod laidOut (by kernel_rfl) (of_decide_eq_true (by kernel_rfl)) k0 bel lt0) trodAll_mk0), rfl, bel.frame _, fun h => by cases h⟩

theorem over : Rows.procNilRow.holds Tryz.pinned (OpenSpec.ofChange Rows.procNilSpec) :=
  OpenClaim.holds_of_wide 3 Tryz.f3 rfl rfl rfl rfl rfl rfl rfl ⟨rfl, rfl, rfl, rfl, rfl⟩ rfl rfl rfl rfl rfl (by kernel_rfl) Tryz.func3 (by kernel_rfl)
    (of_decide_eq_true (by kernel_rfl)) (by unfold Func.isWrapper; first | (rw [if_pos (by decide +kernel)]; kernel_rfl) | (rw [if_neg (by decide +kernel)]; exact ⟨rfl, rfl⟩))
    (fun os started H enc _ => lifted os started H enc)

theorem proved : Rows.ProcNilCardSaid :=
  Claim7.holds_tied_plain_at .later [] [.data, .pinned] true (true, "a035c5781683d6981f330a25f830d252f3d8558a1223b6fdcc43f87aa68114b7") false over (fun _ h => by cases h) (by kernel_rfl) (fun _ h => by cases h) procNil_row_tie rfl ⟨rfl, rfl⟩ (by kernel_rfl) rfl
    (fun f fn hf hfn => by
      obtain rfl : f = 3 := Option.some.inj ((show Tryz.prog.funcNamed "whelk/whelklaw09.ProcNil" = some 3 by kernel_rfl).symm.trans hf) |>.symm
      obtain rfl : fn = Tryz.f3 := (Option.some.inj (Tryz.func3.symm.trans hfn)).symm
      exact ⟨by kernel_rfl, fun j t ht => by
        rw [Tryz.params3] at ht
        have hm : t ∈ [22] := by simpa using Array.mem_of_getElem? ht
        have hall : ([22].all fun u => !Tryz.prog.wantsStandIn u) = true := by kernel_rfl
        exact (show Tryz.prog.wantsStandIn t = false by simpa using List.all_eq_true.1 hall t hm)⟩)
    (by kernel_rfl)
#print axioms proved
end Go.Proofs.YteienbdbhnikbaaGreatDoor.procNil

