/- HandlesPlays: what each call answers, and what there is, call by call, is the document's answer. (printed by gen_hdqz.py) -/
import Derived.Test.YtljlpkeddbfpaaaGreatDoorHm33
import Derived.Test.YtljlpkeddbfpaaaGreatDoorHm15
import Derived.Test.YtljlpkeddbfpaaaGreatDoorTie
import Derived.Test.YtljlpkeddbfpaaaGreatDoorCards
import Derived.SevenTiedAt
import Derived.Stop.Joined
namespace Go.Proofs.YtljlpkeddbfpaaaGreatDoor.handlesPlays
open Go.ChangeShapes Go.WideShapes Go.ChangeAt Go.RowKit Go.Proofs.YtljlpkeddbfpaaaGreatDoor Go.Proofs.YtljlpkeddbfpaaaGreatDoor.Hp Go.Proofs.YtljlpkeddbfpaaaGreatDoor.Hd Go.ChangeMaps
set_option linter.unusedVariables false
attribute [local go_sem] Oper.semAt_some

theorem fin_true {W w1 w2 : World} (h1 : Ran W w1) (hs : Sat w2 (keep W)) (h2 : Ran w1 w2) : Below W.heap.size W w2 := Ran.whole' (Below.trans h1 h2) hs
/-- The law's world: the machine, the document's, the box of the machine's world. -/
def WP (c : Pls) (wb : Nat) (s : Sg) (d : Dg) (R : Hp) (w : World) : Prop := Sat w (SgHp c s * (DgHp d * (pts wb (wdO c.fb c.bp c.tb) * R)))
theorem WP.wo {c : Pls} {wb : Nat} {s : Sg} {d : Dg} {R : Hp} {w : World} (h : WP c wb s d R w) : w.cell? ⟨wb, 0, none⟩ = some (pp c.fb) ∧ w.cell? ⟨wb, 1, none⟩ = some (pp c.bp) ∧ w.cell? ⟨wb, 2, none⟩ = some (pp c.tb) :=
  wo_cells (h.perm (show _ = pts wb (wdO c.fb c.bp c.tb) * (SgHp c s * (DgHp d * R)) by ac_rfl))
theorem WP.rest {c : Pls} {wb : Nat} {s : Sg} {d : Dg} {R : Hp} {w : World} (h : WP c wb s d R w) : Sat w R := h.right.right.right
theorem WP.drew {c : Pls} {wb : Nat} {s : Sg} {d : Dg} {R : Hp} {w : World} (h : WP c wb s d R w) : WP c wb s d R w.drew := Sat.drew h
theorem WP.dg {c : Pls} {wb : Nat} {s : Sg} {d : Dg} {R : Hp} {w : World} (h : WP c wb s d R w) : Sat w (DgHp d * (SgHp c s * (pts wb (wdO c.fb c.bp c.tb) * R))) := Sat.perm h (by ac_rfl)
theorem WP.of {c : Pls} {wb : Nat} {s : Sg} {d : Dg} {R : Hp} {w : World} (h : Sat w (DgHp d * (SgHp c s * (pts wb (wdO c.fb c.bp c.tb) * R)))) : WP c wb s d R w := Sat.perm h (by ac_rfl)
def RelP (c : Pls) (wb tb0 : Nat) (W : World) (l : List Opr) (g : Nat) (v6 : Value) (wr : World) : Prop :=
  ∃ (i : Nat) (s : Sg) (d : Dg), v6 = .int .i64 (i : Int) ∧ i + g = l.length ∧ Inv i s ∧ Rel i s d ∧ d.c.tb = tb0 ∧ WP c wb s d (keep W) wr ∧ Ran W wr
set_option maxRecDepth 100000 in
set_option maxHeartbeats 16000000 in
theorem walk (ao : Option Addr) (cap : Nat) (l : List Opr) (W : World) (hl : OpsAt W ao l) (hg : Glob (keep W)) :
    Calls Tryz.prog 7 #[.slice ao l.length cap] W fun e w' => e = .returned (.bool true) ∧ Below W.heap.size W w' := by
  have HF := Lib.hid (few_calls l ao cap W hl)
  have HA := Lib.hid (fun w hw => awake_calls w (keep W) hw)
  have HL := Lib.hid hl
  have HG := Lib.hid hg
  clear hl hg
  go_enter Tryz.func7, Tryz.ntmps7
  go_wp2_with fail
  refine HF.out.mono ?_
  rintro e w1 ⟨⟨r, rfl, hr⟩, rfl⟩
  clear HF
  cases r with
  | false =>
    have hA := Lib.hid (HA.out W (Sat.start W))
    clear hr
    go_wp2_with fail
    refine hA.out.mono ?_
    rintro e w9 ⟨⟨rfl, h2⟩, h3⟩
    have h2 := Lib.hid h2
    have h3 := Lib.hid h3
    clear hA
    go_wp2_with fail
    go_ret
    exact ⟨rfl, fin_true (Below.refl 0 W) h2.out h3.out⟩
  | true =>
    have HFw := Lib.hid (hr rfl)
    have HB := Lib.hid (begun_calls W (keep W) (Sat.start W))
    clear hr
    go_wp2_with fail
    refine HB.out.mono ?_
    rintro e w1 ⟨⟨fb, mb, tb, hm, bp, F, rfl, hF, S1⟩, R1⟩
    clear HB
    have S2 := S1.alloc (wdO fb bp tb)
    have R2 := Lib.hid (Ran.new R1 (wdO fb bp tb))
    obtain ⟨wb, hwb⟩ : ∃ b, b = w1.heap.size := ⟨_, rfl⟩
    obtain ⟨w2, hw2⟩ : ∃ w2, w2 = w1.alloc (wdO fb bp tb) := ⟨_, rfl⟩
    rw [← hwb, ← hw2] at S2
    rw [← hw2] at R2
    obtain ⟨c, hc⟩ : ∃ c : Pls, c = ⟨fb, mb, tb, hm, bp⟩ := ⟨_, rfl⟩
    have S3 : Sat w2 (SgHp c ⟨F, [], 0, [], 0⟩ * (pts wb (wdO c.fb c.bp c.tb) * keep W)) := by
      rw [hc]
      exact sg_begun (S2.perm (show _ = fsHp fb mb F * (tabHp tb fb bp hm [] 0 * (Spill.poolX bp 40 3 4 0 0 0 0 * (pts wb (wdO fb bp tb) * keep W))) by ac_rfl))
    have HP := Lib.hid (plain_calls w2 _ S3)
    have HI := Lib.hid (And.intro (inv_begun hF) hF)
    have hcf : c.fb = fb := by rw [hc]
    have hcp : c.bp = bp := by rw [hc]
    have hct : c.tb = tb := by rw [hc]
    clear S1 R1 S2 S3 hF hc
    subst hcf
    subst hcp
    subst hct
    go_upto_region 4 with fail
    rw [← hwb, ← hw2]
    clear hwb hw2
    go_wp2_with fail
    refine HP.out.mono ?_
    rintro e w3 ⟨⟨tb0, rfb, lb, rp, kp, kc, rfl, S4⟩, R4⟩
    have R4 := Lib.hid (Below.trans R2.out R4)
    have HR0 := Lib.hid (rel_begun HI.out.2 tb0 rfb lb rp kp kc)
    have S4 := Lib.hid S4
    clear HP R2
    go_wp2_with fail
    go_loopg [6] (l.length) (fun (g : Nat) (v6 : Value) (wr : World) => RelP c wb tb0 W l g v6 wr)
    case atStart => exact ⟨0, _, _, rfl, by omega, HI.out.1, HR0.out, rfl, WP.of S4.out, R4.out⟩
    case round =>
      clear S4 R4 HI HR0
      obtain ⟨i, s, d, rfl, hgk, hI, hRl, htb, HSi, HRi⟩ := hrel
      by_cases hlt : i < l.length
      · have hltI : (i : Int) < l.length := by omega
        have h40 : l.length ≤ 40 := HFw.out.1
        have hi0 : (0 : Int) ≤ i := by omega
        obtain ⟨op, hope⟩ : ∃ op, op = l[i] := ⟨_, rfl⟩
        have hfo : op.d.size ≤ 100 := by have := HFw.out.2 l[i] (List.getElem_mem hlt); rw [hope]; exact this
        obtain ⟨okx, b, o, rfl, hbW, hop⟩ := HL.out i hlt
        rw [← hope] at okx hop
        have HopA := Lib.hid (fun (W' : World) (hk : ∀ k, k < W.heap.size → W'.heap[k]? = W.heap[k]?) => hop.keep (hk b hbW))
        have HD := Lib.hid (does_step (c := c) (pp c.fb) (pp c.bp) (by omega) hI okx hfo HSi.drew)
        have HAk := Lib.hid (fun (s' : Sg) (n er : Int) (t : ByteArray) (st : Step s op n t er s') (w5 : World) (hw : WP c wb s' d (keep W) w5) => (by
          have := asked_rel (by omega) hI hRl okx hfo st hw.dg
          rw [htb] at this
          exact this : Calls Tryz.prog 32 #[pp tb0, opA op] w5 fun e w' => e = .returned (.tuple #[.int .i64 n, .string t, .int .i64 er]) ∧ AfterD (i + 1) s' d w5 (SgHp c s' * (pts wb (wdO c.fb c.bp c.tb) * keep W)) w'))
        obtain ⟨o0, o1, o2, o3, o4, o5, o6, o7⟩ := HopA.out wr.drew HSi.drew.rest.kept
        obtain ⟨c0, c1, c2⟩ := HSi.drew.wo
        have HR0 := Lib.hid HRi
        have HI0 := Lib.hid (And.intro hI (And.intro hfo htb))
        obtain ⟨oa, oi, on, om, ⟨mr, mw, mm⟩, od⟩ := op
        dsimp only at o0 o1 o2 o3 o4 o5 o6 o7 HD HAk
        clear hope okx HSi HRi hbW hop hI hfo hRl htb
        obtain ⟨gj, hgj⟩ : ∃ gj, gj = gk := ⟨_, rfl⟩
        go_upto_region 10 with fail
        refine region_plan (S := (fun w' => w'.cell? ⟨wb, 0, none⟩ = some (pp c.fb) ∧ w'.cell? ⟨wb, 1, none⟩ = some (pp c.bp) ∧ w'.cell? ⟨wb, 2, none⟩ = some (pp c.tb) ∧ w'.cell? ⟨b, o + i * 8, none⟩ = some (.int .i64 oa) ∧ w'.cell? ⟨b, o + i * 8 + 1, none⟩ = some (.int .i64 oi) ∧ w'.cell? ⟨b, o + i * 8 + 2, none⟩ = some (.int .i64 on) ∧ w'.cell? ⟨b, o + i * 8 + 3, none⟩ = some (.int .i64 om) ∧ w'.cell? ⟨b, o + i * 8 + 4, none⟩ = some (.bool mr) ∧ w'.cell? ⟨b, o + i * 8 + 5, none⟩ = some (.bool mw) ∧ w'.cell? ⟨b, o + i * 8 + 6, none⟩ = some (.bool mm) ∧ w'.cell? ⟨b, o + i * 8 + 7, none⟩ = some (.string od))) [(0, true), (1, true), (2, true), (3, true), (4, true), (5, false), (6, true), (7, true), (8, true), (9, true), (10, true), (11, true), (12, true)] (by kernel_rfl) (by kernel_rfl) (by kernel_rfl) ?_ ?_
        · ((try dsimp only); (first | done | (first | exact ⟨c0, c1, c2, o0, o1, o2, o3, o4, o5, o6, o7⟩ | exact K5)))
        simp only [planOps, List.map_cons, List.map_nil, List.getElem?_toArray, List.getElem?_cons_zero, List.getElem?_cons_succ]
        repeat (first
          | ((refine plan_yes (v := ?_) (by rfl) ?_ ?_); rotate_left; (focus (intro w hSw; (try dsimp only at hSw); go_simp; try (with_reducible rfl))); (try simp only [Act.put, List.setIfInBounds_toArray, List.set_cons_zero, List.set_cons_succ]))
          | ((refine plan_no (by rfl) ?_); (try simp only [Act.put, List.setIfInBounds_toArray, List.set_cons_zero, List.set_cons_succ]))
          | ((refine plan_step (fun K hK => ?_)); (first | (go_simp; ((go_at_call 22; refine HD.out.mono ?_; rintro e w5 ⟨n, t, er, rfl, s', st, S5, R5⟩; have S5 : WP c wb s' d (keep W) w5 := S5; have K5 := And.intro S5.wo.1 (And.intro S5.wo.2.1 (And.intro S5.wo.2.2 (HopA.out w5 S5.rest.kept))))); (try go_wp2_with fail)) | go_simp); (refine hK.out _ _ ?_ (fun hHeld => ?_)); (focus ((try dsimp only); (first | done | (first | exact ⟨c0, c1, c2, o0, o1, o2, o3, o4, o5, o6, o7⟩ | exact K5)))); clear hK K; (try simp only [Act.put, List.setIfInBounds_toArray, List.set_cons_zero, List.set_cons_succ])))
        refine plan_done ?_
        have R6 := Lib.hid (Below.trans (Ran.drewN HR0.out 1) R5)
        have HI5 : Hid (Inv (i + 1) s') := Lib.hid (inv_step HI0.out.1 (by omega) HI0.out.2.1 st)
        have HAs := Lib.hid (HAk.out s' n er t st w5 S5)
        clear o0 o1 o2 o3 o4 o5 o6 o7 c0 c1 c2
        obtain ⟨c0, c1, c2, o0, o1, o2, o3, o4, o5, o6, o7⟩ := K5
        dsimp only at o0 o1 o2 o3 o4 o5 o6 o7
        have hi41 : i + 1 ≤ 40 := by omega
        clear HD HR0 HAk st S5 R5 hHeld
        go_wp2_with fail
        refine HAs.out.mono ?_
        rintro e w6 ⟨rfl, d', hRl, htb, S6, R7⟩
        have S6 : WP c wb s' d' (keep W) w6 := WP.of S6
        have htb2 : d'.c.tb = tb0 := by rw [htb]; exact HI0.out.2.2
        have HSm := same_calls (by omega) HI5.out hRl (Glob.more (S := pts wb (wdO c.fb c.bp c.tb)) HG.out) (show Sat w6 (SgHp c s' * (DgHp d' * (pts wb (wdO c.fb c.bp c.tb) * keep W))) from S6)
        rw [htb2] at HSm
        have HSm := Lib.hid HSm
        clear o0 o1 o2 o3 o4 o5 o6 o7 c0 c1 c2
        obtain ⟨c0, c1, c2⟩ := S6.wo
        have HRl := Lib.hid (And.intro hRl htb2)
        have R7 := Lib.hid (Below.trans R6.out R7)
        have htt : (t.toList == t.toList) = true := by simp
        have hnn : (n != n) = false := by simp
        have hee : (er != er) = false := by simp
        clear HAs R6 S6 hRl htb htb2 HI0
        go_wp2_with fail
        refine HSm.out.mono ?_
        rintro e w7 ⟨⟨rfl, S7⟩, R8⟩
        have S7 := Lib.hid S7
        have R8 := Lib.hid (Below.trans R7.out R8)
        clear HSm R7 c0 c1 c2
        go_wp2_with fail
        go_roundg (gj - 1)
        case rel => exact ⟨i + 1, s', d', by simp, by omega, HI5.out, HRl.out.1, HRl.out.2, S7.out, R8.out⟩
        case measure => omega
      · have hge : (l.length : Int) ≤ (i : Int) := by omega
        have hAw := Lib.hid (HA.out wr HSi.rest)
        have HRi := Lib.hid HRi
        clear HSi
        go_wp2_with fail
        refine hAw.out.mono ?_
        rintro e w9 ⟨⟨rfl, h2⟩, h3⟩
        have h2 := Lib.hid h2
        have h3 := Lib.hid h3
        clear hAw
        go_wp2_with fail
        go_ret
        exact ⟨rfl, fin_true HRi.out h2.out h3.out⟩
theorem own : ownKnob Tryz.prog.godebug = none := by kernel_rfl
theorem laidOut : laidOutB Tryz.prog = true := by kernel_rfl

set_option maxRecDepth 100000 in
theorem lifted (os : Os) (started : os.Started) (H : Type) (enc : TypeId × Value → H) :
    ReturnsInHanded {} Tryz.checked os 7 .any (fun w args => (Rows.handlesPlaysSpec.pre enc Tryz.prog Tryz.f7 Rows.handlesPlaysRow.domain false w args ∧ laidMetH Tryz.prog Rows.handlesPlaysRow.laid w) ∧ sizedMet enc Tryz.prog Tryz.f7 (OpenSpec.ofChange Rows.handlesPlaysSpec) false w args) (Rows.handlesPlaysSpec.post enc Tryz.prog Tryz.f7 false true false false) := by
  refine handed_shaped (C := Tryz.checked) (X := fun w _ => laidMetH Tryz.prog Rows.handlesPlaysRow.laid w) (fun _ _ _ hh h => h.of_heap hh) own started (by kernel_rfl) Tryz.func7
    (ChangeSpec.witness_shaped (enc := enc) (C := Tryz.checked) (os := os) (X := fun w _ => laidMetH Tryz.prog Rows.handlesPlaysRow.laid w) false (World.laidAll Tryz.prog os Rows.handlesPlaysRow.laid) #[.slice none 0 0] 8 (World.laidAll_os _ _ _)
      (World.shaped_of_ZipB (by kernel_rfl) (by kernel_rfl)) (by kernel_rfl) (by kernel_rfl) (by kernel_rfl)
      (by rw [MakeChecks.laidMetH_plain _ _ _ (by kernel_rfl)]; exact laidMet_laidAll _ (by kernel_rfl) (by kernel_rfl))) ?_
  intro W base args ds gs before hval0 hW hcnd _ hL hsh
  have hval : ∀ (j : Nat) t v, Tryz.f7.params[j]? = some t → args[j]? = some v → Value.okWide Tryz.prog W .any base t v := hval0
  have hW' := hW
  obtain ⟨p, q, hA0, hV, rfl, hfz, hnd⟩ := hW
  have hA : DataW.TrodAll enc Tryz.prog W 0 (fun _ => true) true Tryz.f7.params.toList args.toList ds p := hA0
  rw [Tryz.params7] at hA hval
  obtain ⟨v0, vs0, d0, ds0, p0, q0, hargs, rfl, rfl, h0, r0⟩ := trodAll_cons hA
  obtain ⟨rfl, rfl, rfl⟩ := trodAll_nil r0
  obtain rfl : args = #[v0] := by cases args; simp_all
  obtain ⟨rfl, rfl⟩ := trodVars_none hV
  have k0 := h0
  have lt0 : ∀ x ∈ p0, x.block < W.heap.size := by obtain ⟨m, hm⟩ := k0; exact DataW.trod_lt m _ _ _ hm
  obtain ⟨ao0, l0, cap0, rfl, w0⟩ := ops_open (hval 0 52 v0 rfl rfl) h0
  clear hA0 hval0
  refine (walk ao0 cap0 l0 W w0 (glob_keep hsh)).mono fun e W' ⟨he, bel⟩ => ?_
  subst he
  exact ⟨_, rfl, _, _, _, [], _, [], hW', trodAll_mk1 (shut_bool Tryz.underlying4 _), (trodAll_cons_mk (Below.trod laidOut (by kernel_rfl) (of_decide_eq_true (by kernel_rfl)) k0 bel lt0) trodAll_mk0), rfl, bel.frame _, fun h => by cases h⟩

theorem over : Rows.handlesPlaysRow.holds Tryz.pinned (OpenSpec.ofChange Rows.handlesPlaysSpec) :=
  OpenClaim.holds_of_wide 7 Tryz.f7 rfl rfl rfl rfl rfl rfl rfl ⟨rfl, rfl, rfl, rfl, rfl⟩ rfl rfl rfl rfl rfl (by kernel_rfl) Tryz.func7 (by kernel_rfl)
    (of_decide_eq_true (by kernel_rfl)) (by unfold Func.isWrapper; first | (rw [if_pos (by decide +kernel)]; kernel_rfl) | (rw [if_neg (by decide +kernel)]; exact ⟨rfl, rfl⟩))
    (fun os started H enc _ => lifted os started H enc)

theorem proved : Rows.HandlesPlaysCardSaid :=
  Claim7.holds_tied_plain_at .later [] [.data, .pinned] true (true, "66290d1066095200cf14bc365beb6c9a74d9cfc0189b6a14515d91b2027a118d") false over (fun _ h => by cases h) (by kernel_rfl) (fun _ h => by cases h) handlesPlays_row_tie rfl ⟨rfl, rfl⟩ (by kernel_rfl) rfl
    (fun f fn hf hfn => by
      obtain rfl : f = 7 := Option.some.inj ((show Tryz.prog.funcNamed "whelk/whelklaw07.HandlesPlays" = some 7 by kernel_rfl).symm.trans hf) |>.symm
      obtain rfl : fn = Tryz.f7 := (Option.some.inj (Tryz.func7.symm.trans hfn)).symm
      exact ⟨by kernel_rfl, fun j t ht => by
        rw [Tryz.params7] at ht
        have hm : t ∈ [52] := by simpa using Array.mem_of_getElem? ht
        have hall : ([52].all fun u => !Tryz.prog.wantsStandIn u) = true := by kernel_rfl
        exact (show Tryz.prog.wantsStandIn t = false by simpa using List.all_eq_true.1 hall t hm)⟩)
    (by kernel_rfl)
#print axioms proved
end Go.Proofs.YtljlpkeddbfpaaaGreatDoor.handlesPlays

