/- HandlesHeld: each node is held as often as there are files of it; as many buffers are open as pipes with an end; when all refs are gone nothing is held, and no buffer is open. (printed by gen_hdhe.py) -/
import Derived.Test.YtljlpkeddbfpaaaGreatDoorHdHp
import Derived.Test.YtljlpkeddbfpaaaGreatDoorTie
import Derived.Test.YtljlpkeddbfpaaaGreatDoorCards
import Derived.SevenTiedAt
import Derived.Stop.Joined
namespace Go.Proofs.YtljlpkeddbfpaaaGreatDoor.handlesHeld
open Go.ChangeShapes Go.WideShapes Go.ChangeAt Go.RowKit Go.Proofs.YtljlpkeddbfpaaaGreatDoor Go.Proofs.YtljlpkeddbfpaaaGreatDoor.Hp Go.Proofs.YtljlpkeddbfpaaaGreatDoor.Hd Go.ChangeMaps
set_option linter.unusedVariables false
attribute [local go_sem] Oper.semAt_some

theorem fin_true {W w1 w2 : World} (h1 : Ran W w1) (hs : Sat w2 (keep W)) (h2 : Ran w1 w2) : Below W.heap.size W w2 := Ran.whole' (Below.trans h1 h2) hs
def WS (c : Pls) (wb : Nat) (s : Sg) (R : Hp) (w : World) : Prop := Sat w (SgHp c s * (pts wb (wdO c.fb c.bp c.tb) * R))
theorem WS.wo {c : Pls} {wb : Nat} {s : Sg} {R : Hp} {w : World} (h : WS c wb s R w) : w.cell? ⟨wb, 0, none⟩ = some (pp c.fb) ∧ w.cell? ⟨wb, 1, none⟩ = some (pp c.bp) ∧ w.cell? ⟨wb, 2, none⟩ = some (pp c.tb) :=
  wo_cells (h.perm (show _ = pts wb (wdO c.fb c.bp c.tb) * (SgHp c s * R) by ac_rfl))
theorem WS.rest {c : Pls} {wb : Nat} {s : Sg} {R : Hp} {w : World} (h : WS c wb s R w) : Sat w R := h.right.right
theorem WS.drew {c : Pls} {wb : Nat} {s : Sg} {R : Hp} {w : World} (h : WS c wb s R w) : WS c wb s R w.drew := Sat.drew h
theorem WS.below {c : Pls} {wb : Nat} {s : Sg} {R : Hp} {w w' : World} (h : WS c wb s R w) (hB : Below w.heap.size w w') : WS c wb s R w' := Sat.below h hB
theorem WS.alloc {c : Pls} {wb : Nat} {s : Sg} {R : Hp} {w : World} (h : WS c wb s R w) (o : Obj) : WS c wb s (pts w.heap.size o * R) (w.alloc o) := (Sat.alloc h o).perm (show _ = SgHp c s * (pts wb (wdO c.fb c.bp c.tb) * (pts w.heap.size o * R)) by ac_rfl)
theorem WS.old {c : Pls} {wb : Nat} {s : Sg} {R : Hp} {w : World} (h : WS c wb s R w) (o : Obj) : WS c wb s R (w.alloc o) := Sat.old h o
theorem WS.perm {c : Pls} {wb : Nat} {s : Sg} {R R' : Hp} {w : World} (h : WS c wb s R w) (e : R = R') : WS c wb s R' w := e ▸ h
abbrev hdO (a b : Int) : Obj := .cells #[.int .i64 0, .int .i64 0, .int .i64 a, .int .i64 b, .int .i64 0, .int .i64 0, .int .i64 0, .int .i64 0, .int .i64 0] 3 (0, 0)
theorem WS.tail {c : Pls} {wb : Nat} {s : Sg} {P R : Hp} {w : World} (h : WS c wb s (P * R) w) : WS c wb s R w :=
  (Sat.perm h (show _ = P * (SgHp c s * (pts wb (wdO c.fb c.bp c.tb) * R)) by ac_rfl)).right
theorem WS.hd {c : Pls} {wb : Nat} {s : Sg} {P R : Hp} {w : World} (h : WS c wb s (P * R) w) : Sat w (P * (SgHp c s * (pts wb (wdO c.fb c.bp c.tb) * R))) :=
  Sat.perm h (by ac_rfl)
theorem WS.put {c : Pls} {wb : Nat} {s : Sg} {R : Hp} {w : World} {b : Nat} {cs : Array Value} {T : TypeId} (h : WS c wb s (pts b (.cells cs T (0, 0)) * R) w) (i : Nat) (v : Value) : WS c wb s (pts b (.cells (cs.setIfInBounds i v) T (0, 0)) * R) (w.setCell ⟨b, i, none⟩ v) :=
  (h.hd.set (i := i) v).perm (show _ = SgHp c s * (pts wb (wdO c.fb c.bp c.tb) * (pts b (.cells (cs.setIfInBounds i v) T (0, 0)) * R)) by ac_rfl)
theorem hmk : ∀ w' : World, (Instr.makeSlice 40 (.int .i64 9) (.int .i64 9)).run Tryz.prog w' = .ok (.slice (some ⟨w'.heap.size, 0, none⟩) 9 9) (w'.alloc (hdO 0 0)) := fun w' => by kernel_rfl
theorem arr_iv {w : World} {p : Option Addr} {cp : Nat} {ks : List Int} {R : Hp} {k : Nat} (hk : k < ks.length) (h : Sat w (arr 3 1 p ks.length cp (ks.map iv) * R)) : ∃ b o, p = some ⟨b, o, none⟩ := by
  obtain ⟨h1, h2, h3⟩ := h.arr_len
  exact h.arr_addr (by omega)
theorem arr_at {w : World} {b o cp : Nat} {ks : List Int} {R : Hp} {k : Nat} (hk : k < ks.length) (h : Sat w (arr 3 1 (some ⟨b, o, none⟩) ks.length cp (ks.map iv) * R)) : w.cell? ⟨b, o + k, none⟩ = some (.int .i64 ks[k]) := by
  rw [h.arr_cell k (by simpa using hk)]; simp
theorem hd_cells {w : World} {b : Nat} {x y : Int} {S : Hp} (h : Sat w (pts b (hdO x y) * S)) : w.cell? ⟨b, 2, none⟩ = some (.int .i64 x) ∧ w.cell? ⟨b, 3, none⟩ = some (.int .i64 y) := by
  have hb := h.get
  exact ⟨by rw [cell_at hb]; rfl, by rw [cell_at hb]; rfl⟩
theorem sumK_le {f : Hn → Nat} (hf : ∀ x, f x ≤ 1) (L : HL) : ∀ ks : List Int, sumK f L ks ≤ ks.length
  | [] => Nat.le_refl _
  | k :: ks => by
    have := sumK_le hf L ks
    rw [List.length_cons]
    unfold sumK
    cases findA L k with
    | none => show 0 + _ ≤ _; omega
    | some x => have := hf x; show f x + _ ≤ _; omega
theorem cR_le (x : Hn) : cR x ≤ 1 := by unfold cR; split <;> omega
theorem cW_le (x : Hn) : cW x ≤ 1 := by unfold cW; split <;> omega
abbrev Q2 (p : Option Addr) (cp : Nat) (ks : List Int) (W : World) : Hp := arr 3 1 p ks.length cp (ks.map iv) * keep W
/-- The numbers are told one by one. -/
def Rel2 (c : Pls) (wb hb : Nat) (W : World) (s : Sg) (p : Option Addr) (cp : Nat) (ks : List Int) (g : Nat) (v7 v8 v10 : Value) (wr : World) : Prop :=
  ∃ (k : Nat) (a2 a3 ar aw : Nat), v10 = .int .i64 (k : Int) ∧ k + g = ks.length ∧ v7 = .int .i64 (ar : Int) ∧ v8 = .int .i64 (aw : Int) ∧ a2 = sumK (cF 2) s.L (ks.take k) ∧ a3 = sumK (cF 3) s.L (ks.take k) ∧ ar = sumK cR s.L (ks.take k) ∧ aw = sumK cW s.L (ks.take k) ∧
    WS c wb s (pts hb (hdO a2 a3) * Q2 p cp ks W) wr ∧ Ran W wr
/-- The nodes are told one by one. -/
def Rel3 (c : Pls) (wb : Nat) (W : World) (s : Sg) (Q : Hp) (g : Nat) (v13 : Value) (wr : World) : Prop :=
  ∃ n : Nat, v13 = .int .i64 (n : Int) ∧ 1 ≤ n ∧ n + g = 9 ∧ WS c wb s Q wr ∧ Ran W wr
/-- The handles are let go one by one. -/
def Rel4 (c : Pls) (wb : Nat) (W : World) (M : Nat) (p : Option Addr) (cp : Nat) (ks : List Int) (g : Nat) (v17 : Value) (wr : World) : Prop :=
  ∃ (k : Nat) (s : Sg), v17 = .int .i64 (k : Int) ∧ k + g = ks.length ∧ Inv M s ∧ (∀ j, (findA s.L j).isSome = true ↔ j ∈ ks.drop k) ∧ WS c wb s (Q2 p cp ks W) wr ∧ Ran W wr
def Rel5 (c : Pls) (wb ib : Nat) (W : World) (M : Nat) (p : Option Addr) (cp : Nat) (ks : List Int) (k : Nat) (id : Int) (rf : Nat) (io : Obj) (g : Nat) (v20 : Value) (wr : World) : Prop :=
  ∃ (q : Nat) (s : Sg), v20 = .int .i64 (q : Int) ∧ q + g = rf ∧ Inv M s ∧ (q < rf → ∃ y, findA s.L id = some y ∧ y.refs = (rf : Int) - (q : Int)) ∧ (q = rf → findA s.L id = none) ∧ (∀ j, j ≠ id → ((findA s.L j).isSome = true ↔ j ∈ ks.drop (k + 1))) ∧
    WS c wb s (pts ib io * Q2 p cp ks W) wr ∧ Ran W wr
def Rel (c : Pls) (wb : Nat) (W : World) (l : List Opr) (g : Nat) (v5 : Value) (wr : World) : Prop :=
  ∃ (i : Nat) (s : Sg), v5 = .int .i64 (i : Int) ∧ i + g = l.length ∧ Inv i s ∧ WS c wb s (keep W) wr ∧ Ran W wr
set_option maxRecDepth 100000 in
set_option maxHeartbeats 16000000 in
theorem walk (ao : Option Addr) (cap : Nat) (l : List Opr) (W : World) (hl : OpsAt W ao l) :
    Calls Tryz.prog 5 #[.slice ao l.length cap] W fun e w' => e = .returned (.bool true) ∧ Below W.heap.size W w' := by
  have HF := Lib.hid (few_calls l ao cap W hl)
  have HA := Lib.hid (fun w hw => awake_calls w (keep W) hw)
  have HL := Lib.hid hl
  clear hl
  go_enter Tryz.func5, Tryz.ntmps5
  go_wp2_with fail
  refine HF.out.mono ?_
  rintro e w1 ⟨⟨r, rfl, hr⟩, rfl⟩
  clear HF
  cases r with
  | false =>
    have hA := Lib.hid (HA.out W (Sat.start W))
    clear hr
    go_wp2_with fail
    refine hA.out.mono ?_
    rintro e w9 ⟨⟨rfl, h2⟩, h3⟩
    have h2 := Lib.hid h2
    have h3 := Lib.hid h3
    clear hA
    go_wp2_with fail
    go_ret
    exact ⟨rfl, fin_true (Below.refl 0 W) h2.out h3.out⟩
  | true =>
    have HFw := Lib.hid (hr rfl)
    have HB := Lib.hid (begun_calls W (keep W) (Sat.start W))
    clear hr
    go_wp2_with fail
    refine HB.out.mono ?_
    rintro e w1 ⟨⟨fb, mb, tb, hm, bp, F, rfl, hF, S1⟩, R1⟩
    clear HB
    have S2 := S1.alloc (wdO fb bp tb)
    have R2 := Lib.hid (Ran.new R1 (wdO fb bp tb))
    obtain ⟨wb, hwb⟩ : ∃ b, b = w1.heap.size := ⟨_, rfl⟩
    obtain ⟨w2, hw2⟩ : ∃ w2, w2 = w1.alloc (wdO fb bp tb) := ⟨_, rfl⟩
    rw [← hwb, ← hw2] at S2
    rw [← hw2] at R2
    obtain ⟨c, hc⟩ : ∃ c : Pls, c = ⟨fb, mb, tb, hm, bp⟩ := ⟨_, rfl⟩
    have S3 : WS c wb ⟨F, [], 0, [], 0⟩ (keep W) w2 := by
      rw [hc]
      exact sg_begun (S2.perm (show _ = fsHp fb mb F * (tabHp tb fb bp hm [] 0 * (Spill.poolX bp 40 3 4 0 0 0 0 * (pts wb (wdO fb bp tb) * keep W))) by ac_rfl))
    have S3 := Lib.hid S3
    have HI := Lib.hid (inv_begun hF)
    have hcf : c.fb = fb := by rw [hc]
    have hcp : c.bp = bp := by rw [hc]
    have hct : c.tb = tb := by rw [hc]
    clear S1 R1 S2 hF hc
    subst hcf
    subst hcp
    subst hct
    go_upto_region 4 with fail
    rw [← hwb, ← hw2]
    clear hwb hw2
    go_wp2_with fail
    go_loopg [5, 6, 7, 8, 9, 10, 11, 12, 13, 14, 15] (l.length) (fun (g : Nat) (v5 v6 v7 v8 v9 v10 v11 v12 v13 v14 v15 : Value) (wr : World) => Rel c wb W l g v5 wr)
    case atStart => exact ⟨0, _, rfl, by omega, HI.out, S3.out, R2.out⟩
    case round =>
      clear S3 R2 HI
      obtain ⟨i, s0, rfl, hgk, hI, HSi, HRi⟩ := hrel
      by_cases hlt : i < l.length
      · have hltI : (i : Int) < l.length := by omega
        have h40 : l.length ≤ 40 := HFw.out.1
        have hi0 : (0 : Int) ≤ i := by omega
        obtain ⟨op, hope⟩ : ∃ op, op = l[i] := ⟨_, rfl⟩
        have hfo : op.d.size ≤ 100 := by have := HFw.out.2 l[i] (List.getElem_mem hlt); rw [hope]; exact this
        obtain ⟨okx, b, o, rfl, hbW, hop⟩ := HL.out i hlt
        rw [← hope] at okx hop
        have HopA := Lib.hid (fun (W' : World) (hk : ∀ k, k < W.heap.size → W'.heap[k]? = W.heap[k]?) => hop.keep (hk b hbW))
        have HD := Lib.hid (does_step (c := c) (pp c.fb) (pp c.bp) (by omega) hI okx hfo HSi.drew)
        obtain ⟨o0, o1, o2, o3, o4, o5, o6, o7⟩ := HopA.out wr.drew HSi.drew.rest.kept
        obtain ⟨c0, c1, c2⟩ := HSi.drew.wo
        have HS0 := Lib.hid HSi
        have HR0 := Lib.hid HRi
        have HI0 := Lib.hid (And.intro hI hfo)
        obtain ⟨oa, oi, on, om, ⟨mr, mw, mm⟩, od⟩ := op
        dsimp only at o0 o1 o2 o3 o4 o5 o6 o7 HD
        clear hope okx HSi HRi hbW hop hI hfo
        obtain ⟨gj, hgj⟩ : ∃ gj, gj = gk := ⟨_, rfl⟩
        go_upto_region 9 with fail
        refine Go.Proofs.YtljlpkeddbfpaaaGreatDoor.region_plan (S := (fun w' => w'.cell? ⟨wb, 0, none⟩ = some (pp c.fb) ∧ w'.cell? ⟨wb, 1, none⟩ = some (pp c.bp) ∧ w'.cell? ⟨wb, 2, none⟩ = some (pp c.tb) ∧ w'.cell? ⟨b, o + i * 8, none⟩ = some (.int .i64 oa) ∧ w'.cell? ⟨b, o + i * 8 + 1, none⟩ = some (.int .i64 oi) ∧ w'.cell? ⟨b, o + i * 8 + 2, none⟩ = some (.int .i64 on) ∧ w'.cell? ⟨b, o + i * 8 + 3, none⟩ = some (.int .i64 om) ∧ w'.cell? ⟨b, o + i * 8 + 4, none⟩ = some (.bool mr) ∧ w'.cell? ⟨b, o + i * 8 + 5, none⟩ = some (.bool mw) ∧ w'.cell? ⟨b, o + i * 8 + 6, none⟩ = some (.bool mm) ∧ w'.cell? ⟨b, o + i * 8 + 7, none⟩ = some (.string od))) [(0, true), (1, true), (2, true), (3, true), (4, true), (5, false)] (by kernel_rfl) (by kernel_rfl) (by kernel_rfl) ?_ ?_
        · ((try dsimp only); (first | done | (first | exact ⟨c0, c1, c2, o0, o1, o2, o3, o4, o5, o6, o7⟩ | exact K5)))
        simp only [Go.Proofs.YtljlpkeddbfpaaaGreatDoor.planOps, List.map_cons, List.map_nil, List.getElem?_toArray, List.getElem?_cons_zero, List.getElem?_cons_succ]
        repeat (first
          | ((refine Go.Proofs.YtljlpkeddbfpaaaGreatDoor.plan_yes (v := ?_) (by rfl) ?_ ?_); rotate_left; (focus (intro w hSw; (try dsimp only at hSw); go_simp; try (with_reducible rfl))); (try simp only [Act.put, List.setIfInBounds_toArray, List.set_cons_zero, List.set_cons_succ]))
          | ((refine Go.Proofs.YtljlpkeddbfpaaaGreatDoor.plan_no (by rfl) ?_); (try simp only [Act.put, List.setIfInBounds_toArray, List.set_cons_zero, List.set_cons_succ]))
          | ((refine Go.Proofs.YtljlpkeddbfpaaaGreatDoor.plan_step (fun K hK => ?_)); (first | ((go_at_call 22; refine HD.out.mono ?_; rintro e w5 ⟨n, t, er, rfl, s, st, S5, R5⟩; have S5 : WS c wb s (keep W) w5 := S5; have K5 := And.intro S5.wo.1 (And.intro S5.wo.2.1 (And.intro S5.wo.2.2 (HopA.out w5 S5.rest.kept))))) | (go_simp; ((go_at_call 22; refine HD.out.mono ?_; rintro e w5 ⟨n, t, er, rfl, s, st, S5, R5⟩; have S5 : WS c wb s (keep W) w5 := S5; have K5 := And.intro S5.wo.1 (And.intro S5.wo.2.1 (And.intro S5.wo.2.2 (HopA.out w5 S5.rest.kept))))); (try go_wp2_with fail)) | go_simp); (refine hK.out _ _ ?_ (fun hHeld => ?_)); (focus ((try dsimp only); (first | done | (first | exact ⟨c0, c1, c2, o0, o1, o2, o3, o4, o5, o6, o7⟩ | exact K5)))); clear hK K; (try simp only [Act.put, List.setIfInBounds_toArray, List.set_cons_zero, List.set_cons_succ])))
        refine Go.Proofs.YtljlpkeddbfpaaaGreatDoor.plan_done ?_
        have S6 := S5.alloc (hdO 0 0)
        have R6 := Lib.hid (Ran.new (Below.trans (Ran.drewN HR0.out 1) R5) (hdO 0 0))
        have HI5 : Hid (Inv (i + 1) s) := Lib.hid (inv_step HI0.out.1 (by omega) HI0.out.2 st)
        obtain ⟨hb, hhb⟩ : ∃ hb, hb = w5.heap.size := ⟨_, rfl⟩
        obtain ⟨w6, hw6⟩ : ∃ w6, w6 = w5.alloc (hdO 0 0) := ⟨_, rfl⟩
        rw [← hhb, ← hw6] at S6
        rw [← hw6] at R6
        have hmk' := hmk w5
        rw [← hhb, ← hw6] at hmk'
        have S6 := Lib.hid S6
        have hi41 : i + 1 ≤ 40 := by omega
        clear K5 HD HS0 HR0 HI0 st S5 R5 o0 o1 o2 o3 o4 o5 o6 o7 c0 c1 c2 hhb hw6
        go_upto_region 13 with fail
        have c2 := S6.out.wo.2.2
        have HAl := Lib.hid (all_st (c := c) (by omega) HI5.out S6.out)
        clear hmk'
        go_wp2_with fail
        refine HAl.out.mono ?_
        rintro e w7 ⟨⟨p, cp, ks, rfl, hks, S7⟩, hB7⟩
        have S7 : WS c wb s (pts hb (hdO 0 0) * Q2 p cp ks W) w7 := S7.perm (show _ = SgHp c s * (pts wb (wdO c.fb c.bp c.tb) * (pts hb (hdO 0 0) * (arr 3 1 p ks.length cp (ks.map iv) * keep W))) by ac_rfl)
        have R7 := Lib.hid (Below.trans R6.out (below_ran hB7))
        have S7 := Lib.hid S7
        have hkl : ks.length ≤ 80 := by have h1 := HI5.out.keys_len hks; have h2 := HI5.out.lenL; omega
        have HK := Lib.hid hks
        have hkI : (ks.length : Int) ≤ 80 := by omega
        clear HAl S6 R6 hB7 hks c2
        go_wp2_with fail
        go_loopg [7, 8, 10, 11, 12] (ks.length) (fun (g : Nat) (v7 v8 v10 v11 v12 : Value) (wr : World) => Rel2 c wb hb W s p cp ks g v7 v8 v10 wr)
        case atStart => exact ⟨0, 0, 0, 0, 0, rfl, by omega, rfl, rfl, rfl, rfl, rfl, rfl, S7.out, R7.out⟩
        case round =>
          clear S7 R7
          obtain ⟨k, a2, a3, ar, aw, rfl, hgk2, rfl, rfl, e2, e3, er', ew, HSk, HRk⟩ := hrel
          obtain ⟨gz, hgz⟩ : ∃ gz, gz = gk := ⟨_, rfl⟩
          have b2 : a2 ≤ 80 := by rw [e2]; have := sumK_le (cF_le 2) s.L (ks.take k); rw [List.length_take] at this; omega
          have b3 : a3 ≤ 80 := by rw [e3]; have := sumK_le (cF_le 3) s.L (ks.take k); rw [List.length_take] at this; omega
          have br : ar ≤ 80 := by rw [er']; have := sumK_le cR_le s.L (ks.take k); rw [List.length_take] at this; omega
          have bw : aw ≤ 80 := by rw [ew]; have := sumK_le cW_le s.L (ks.take k); rw [List.length_take] at this; omega
          have HE := Lib.hid (And.intro e2 (And.intro e3 (And.intro er' ew)))
          clear e2 e3 er' ew
          by_cases hlk : k < ks.length
          · have hlkI : (k : Int) < (ks.length : Int) := by omega
            have hk0 : (0 : Int) ≤ (k : Int) := by omega
            obtain ⟨id, hid⟩ : ∃ id, id = ks[k] := ⟨_, rfl⟩
            obtain ⟨pb, po, rfl⟩ := arr_iv hlk HSk.tail.hd
            obtain ⟨y, hy⟩ := Option.isSome_iff_exists.1 (show (findA s.L id).isSome = true by rw [← hblk_some, ← HK.out.2, hid]; exact List.getElem_mem hlk)
            have hidI : I64 id := by have := HI5.out.ids id y hy; unfold I64; omega
            have HID := Lib.hid hid
            have HSk := Lib.hid HSk
            have HRk := Lib.hid HRk
            have HTH := Lib.hid (And.intro (HI5.out.th id y hy) (HI5.out.refs id y hy))
            have HT := Lib.hid (fun f => sumK_take f s.L ks k hlk y (by rw [← hid]; exact hy))
            clear hid
            have HSA := Lib.hid (stat_st (c := c) (by omega) HI5.out hidI hy HSk.out.drew)
            have HSB := Lib.hid (stat_st (c := c) (by omega) HI5.out hidI hy (HSk.out.old (inO 0 0 0 0 ⟨false, false, false⟩)).drew)
            have HBz := Lib.hid ((HSk.out.alloc (inO 0 0 0 0 ⟨false, false, false⟩)).drew)
            obtain ⟨kd, hkd⟩ : ∃ kd, kd = knd y.t := ⟨_, rfl⟩
            obtain ⟨nd, hnd⟩ : ∃ nd, nd = nod y.t := ⟨_, rfl⟩
            obtain ⟨rf, hrf⟩ : ∃ rf, rf = y.refs := ⟨_, rfl⟩
            rw [← hkd, ← hnd, ← hrf] at HSA HSB
            have HY := Lib.hid (And.intro hy (And.intro hkd (And.intro hnd hrf)))
            have HC := Lib.hid (fun (W' : World) (h : WS c wb s (pts hb (hdO a2 a3) * Q2 (some ⟨pb, po, none⟩) cp ks W) W') => (And.intro h.wo.2.2 ((fun {W' : World} (h : WS c wb s (pts hb (hdO a2 a3) * Q2 (some ⟨pb, po, none⟩) cp ks W) W') => (by rw [HID.out]; exact arr_at hlk h.tail.hd : W'.cell? ⟨pb, po + k, none⟩ = some (.int .i64 id))) h) : W'.cell? ⟨wb, 2, none⟩ = some (pp c.tb) ∧ W'.cell? ⟨pb, po + k, none⟩ = some (.int .i64 id)))
            have k0 := HC.out _ HSk.out.drew
            have k0b := HC.out _ (HSk.out.old (inO 0 0 0 0 ⟨false, false, false⟩)).drew
            clear hy hkd hnd hrf
            go_upto_region 17 with fail
            go_cut [11, 12] from 50 to 109 (fun sx se wx => ∃ (ib : Nat) (a : Int) (m : Md), sx = .pointer (some ⟨ib, 0, none⟩) ∧ se = .int .i64 0 ∧ WS c wb s (pts ib (inO kd rf a nd m) * (pts hb (hdO a2 a3) * Q2 (some ⟨pb, po, none⟩) cp ks W)) wx ∧ Ran W wx)
            case first =>
              refine Go.Proofs.YtljlpkeddbfpaaaGreatDoor.region_tree (S := (fun w' => w'.cell? ⟨wb, 2, none⟩ = some (pp c.tb) ∧ w'.cell? ⟨pb, po + k, none⟩ = some (.int .i64 id))) (.take 0 (.take 1 (.take 2 (.take 3 (.take 4 (.take 5 (.fork 6 (.take 7 (.take 8 (.take 9 (.step 10 (.step 11 (.take 12 (.nil))))))) 10 (.step 6 (.take 7 (.take 8 (.take 9 (.step 11 (.take 12 (.nil)))))))))))))) (by kernel_rfl) (by kernel_rfl) (by kernel_rfl) ?_ ?_
              · ((try dsimp only); (first | done | (first | with_reducible exact k0 | with_reducible exact k0b | with_reducible exact k4 | with_reducible exact k4a _ | with_reducible exact k4b | with_reducible exact Kset.out)))
              simp only [Go.Proofs.YtljlpkeddbfpaaaGreatDoor.Plan.ops, List.getElem?_toArray, List.getElem?_cons_zero, List.getElem?_cons_succ]
              ((first | ((refine Go.Proofs.YtljlpkeddbfpaaaGreatDoor.tree_yes (v := ?_) (by rfl) ?_ ?_); rotate_left; (focus (intro w hSw; (try dsimp only at hSw); go_simp; try (with_reducible rfl)))) | (refine Go.Proofs.YtljlpkeddbfpaaaGreatDoor.tree_no (by rfl) ?_)); (try simp only [Act.put, List.setIfInBounds_toArray, List.set_cons_zero, List.set_cons_succ]))
              ((first | ((refine Go.Proofs.YtljlpkeddbfpaaaGreatDoor.tree_yes (v := ?_) (by rfl) ?_ ?_); rotate_left; (focus (intro w hSw; (try dsimp only at hSw); go_simp; try (with_reducible rfl)))) | (refine Go.Proofs.YtljlpkeddbfpaaaGreatDoor.tree_no (by rfl) ?_)); (try simp only [Act.put, List.setIfInBounds_toArray, List.set_cons_zero, List.set_cons_succ]))
              ((first | ((refine Go.Proofs.YtljlpkeddbfpaaaGreatDoor.tree_yes (v := ?_) (by rfl) ?_ ?_); rotate_left; (focus (intro w hSw; (try dsimp only at hSw); go_simp; try (with_reducible rfl)))) | (refine Go.Proofs.YtljlpkeddbfpaaaGreatDoor.tree_no (by rfl) ?_)); (try simp only [Act.put, List.setIfInBounds_toArray, List.set_cons_zero, List.set_cons_succ]))
              ((first | ((refine Go.Proofs.YtljlpkeddbfpaaaGreatDoor.tree_yes (v := ?_) (by rfl) ?_ ?_); rotate_left; (focus (intro w hSw; (try dsimp only at hSw); go_simp; try (with_reducible rfl)))) | (refine Go.Proofs.YtljlpkeddbfpaaaGreatDoor.tree_no (by rfl) ?_)); (try simp only [Act.put, List.setIfInBounds_toArray, List.set_cons_zero, List.set_cons_succ]))
              ((first | ((refine Go.Proofs.YtljlpkeddbfpaaaGreatDoor.tree_yes (v := ?_) (by rfl) ?_ ?_); rotate_left; (focus (intro w hSw; (try dsimp only at hSw); go_simp; try (with_reducible rfl)))) | (refine Go.Proofs.YtljlpkeddbfpaaaGreatDoor.tree_no (by rfl) ?_)); (try simp only [Act.put, List.setIfInBounds_toArray, List.set_cons_zero, List.set_cons_succ]))
              ((first | ((refine Go.Proofs.YtljlpkeddbfpaaaGreatDoor.tree_yes (v := ?_) (by rfl) ?_ ?_); rotate_left; (focus (intro w hSw; (try dsimp only at hSw); go_simp; try (with_reducible rfl)))) | (refine Go.Proofs.YtljlpkeddbfpaaaGreatDoor.tree_no (by rfl) ?_)); (try simp only [Act.put, List.setIfInBounds_toArray, List.set_cons_zero, List.set_cons_succ]))
              refine Go.Proofs.YtljlpkeddbfpaaaGreatDoor.tree_fork (fun K hK => ?_) (fun K hK => ?_)
              focus
                ((first | (first | (go_at_call 24; refine HSA.out.mono ?_; rintro e w8 ⟨⟨a, m, rfl⟩, hB8⟩; have S8 := HSk.out.drew.below hB8; have k4 := HC.out _ S8; have k4a := (fun o => HC.out _ (S8.old o)); have S8 := Lib.hid S8; have hB8 := Lib.hid hB8) | (go_at_call 24; refine HSB.out.mono ?_; rintro e w8 ⟨⟨a, m, rfl⟩, hB8⟩; have S8b := HBz.out.below hB8; have k4b := HC.out _ S8b.tail; obtain ⟨z0, z1, z2, z3, z4, z5, z6⟩ := in_cells S8b.hd; have f0b : ∀ i, w8.frozen? ⟨wr.heap.size, i, none⟩ = false := (fun i => free_at S8b.hd.get i); have S8c := ((((((S8b.put 0 (.int .i64 kd)).put 1 (.int .i64 rf)).put 2 (.int .i64 a)).put 3 (.int .i64 nd)).put 4 (.bool m.r)).put 5 (.bool m.w)).put 6 (.bool m.m); have Kset := Lib.hid (HC.out _ S8c.tail); have S8b := Lib.hid S8b; have hB8 := Lib.hid hB8; clear S8c)) | (go_simp; (first | (go_at_call 24; refine HSA.out.mono ?_; rintro e w8 ⟨⟨a, m, rfl⟩, hB8⟩; have S8 := HSk.out.drew.below hB8; have k4 := HC.out _ S8; have k4a := (fun o => HC.out _ (S8.old o)); have S8 := Lib.hid S8; have hB8 := Lib.hid hB8) | (go_at_call 24; refine HSB.out.mono ?_; rintro e w8 ⟨⟨a, m, rfl⟩, hB8⟩; have S8b := HBz.out.below hB8; have k4b := HC.out _ S8b.tail; obtain ⟨z0, z1, z2, z3, z4, z5, z6⟩ := in_cells S8b.hd; have f0b : ∀ i, w8.frozen? ⟨wr.heap.size, i, none⟩ = false := (fun i => free_at S8b.hd.get i); have S8c := ((((((S8b.put 0 (.int .i64 kd)).put 1 (.int .i64 rf)).put 2 (.int .i64 a)).put 3 (.int .i64 nd)).put 4 (.bool m.r)).put 5 (.bool m.w)).put 6 (.bool m.m); have Kset := Lib.hid (HC.out _ S8c.tail); have S8b := Lib.hid S8b; have hB8 := Lib.hid hB8; clear S8c)); (try go_wp2_with fail)) | go_simp); (refine hK.out _ _ ?_ (fun hHeld => ?_)); (focus ((try dsimp only); (first | done | (first | with_reducible exact k0 | with_reducible exact k0b | with_reducible exact k4 | with_reducible exact k4a _ | with_reducible exact k4b | with_reducible exact Kset.out)))); clear hK K; (try simp only [Act.put, List.setIfInBounds_toArray, List.set_cons_zero, List.set_cons_succ]))
                ((first | ((refine Go.Proofs.YtljlpkeddbfpaaaGreatDoor.tree_yes (v := ?_) (by rfl) ?_ ?_); rotate_left; (focus (intro w hSw; (try dsimp only at hSw); go_simp; try (with_reducible rfl)))) | (refine Go.Proofs.YtljlpkeddbfpaaaGreatDoor.tree_no (by rfl) ?_)); (try simp only [Act.put, List.setIfInBounds_toArray, List.set_cons_zero, List.set_cons_succ]))
                ((first | ((refine Go.Proofs.YtljlpkeddbfpaaaGreatDoor.tree_yes (v := ?_) (by rfl) ?_ ?_); rotate_left; (focus (intro w hSw; (try dsimp only at hSw); go_simp; try (with_reducible rfl)))) | (refine Go.Proofs.YtljlpkeddbfpaaaGreatDoor.tree_no (by rfl) ?_)); (try simp only [Act.put, List.setIfInBounds_toArray, List.set_cons_zero, List.set_cons_succ]))
                ((first | ((refine Go.Proofs.YtljlpkeddbfpaaaGreatDoor.tree_yes (v := ?_) (by rfl) ?_ ?_); rotate_left; (focus (intro w hSw; (try dsimp only at hSw); go_simp; try (with_reducible rfl)))) | (refine Go.Proofs.YtljlpkeddbfpaaaGreatDoor.tree_no (by rfl) ?_)); (try simp only [Act.put, List.setIfInBounds_toArray, List.set_cons_zero, List.set_cons_succ]))
                ((refine Go.Proofs.YtljlpkeddbfpaaaGreatDoor.tree_step (fun K hK => ?_)); (first | (first | (go_at_call 24; refine HSA.out.mono ?_; rintro e w8 ⟨⟨a, m, rfl⟩, hB8⟩; have S8 := HSk.out.drew.below hB8; have k4 := HC.out _ S8; have k4a := (fun o => HC.out _ (S8.old o)); have S8 := Lib.hid S8; have hB8 := Lib.hid hB8) | (go_at_call 24; refine HSB.out.mono ?_; rintro e w8 ⟨⟨a, m, rfl⟩, hB8⟩; have S8b := HBz.out.below hB8; have k4b := HC.out _ S8b.tail; obtain ⟨z0, z1, z2, z3, z4, z5, z6⟩ := in_cells S8b.hd; have f0b : ∀ i, w8.frozen? ⟨wr.heap.size, i, none⟩ = false := (fun i => free_at S8b.hd.get i); have S8c := ((((((S8b.put 0 (.int .i64 kd)).put 1 (.int .i64 rf)).put 2 (.int .i64 a)).put 3 (.int .i64 nd)).put 4 (.bool m.r)).put 5 (.bool m.w)).put 6 (.bool m.m); have Kset := Lib.hid (HC.out _ S8c.tail); have S8b := Lib.hid S8b; have hB8 := Lib.hid hB8; clear S8c)) | (go_simp; (first | (go_at_call 24; refine HSA.out.mono ?_; rintro e w8 ⟨⟨a, m, rfl⟩, hB8⟩; have S8 := HSk.out.drew.below hB8; have k4 := HC.out _ S8; have k4a := (fun o => HC.out _ (S8.old o)); have S8 := Lib.hid S8; have hB8 := Lib.hid hB8) | (go_at_call 24; refine HSB.out.mono ?_; rintro e w8 ⟨⟨a, m, rfl⟩, hB8⟩; have S8b := HBz.out.below hB8; have k4b := HC.out _ S8b.tail; obtain ⟨z0, z1, z2, z3, z4, z5, z6⟩ := in_cells S8b.hd; have f0b : ∀ i, w8.frozen? ⟨wr.heap.size, i, none⟩ = false := (fun i => free_at S8b.hd.get i); have S8c := ((((((S8b.put 0 (.int .i64 kd)).put 1 (.int .i64 rf)).put 2 (.int .i64 a)).put 3 (.int .i64 nd)).put 4 (.bool m.r)).put 5 (.bool m.w)).put 6 (.bool m.m); have Kset := Lib.hid (HC.out _ S8c.tail); have S8b := Lib.hid S8b; have hB8 := Lib.hid hB8; clear S8c)); (try go_wp2_with fail)) | go_simp); (refine hK.out _ _ ?_ (fun hHeld => ?_)); (focus ((try dsimp only); (first | done | (first | with_reducible exact k0 | with_reducible exact k0b | with_reducible exact k4 | with_reducible exact k4a _ | with_reducible exact k4b | with_reducible exact Kset.out)))); clear hK K; (try simp only [Act.put, List.setIfInBounds_toArray, List.set_cons_zero, List.set_cons_succ]))
                ((refine Go.Proofs.YtljlpkeddbfpaaaGreatDoor.tree_step (fun K hK => ?_)); (first | (first | (go_at_call 24; refine HSA.out.mono ?_; rintro e w8 ⟨⟨a, m, rfl⟩, hB8⟩; have S8 := HSk.out.drew.below hB8; have k4 := HC.out _ S8; have k4a := (fun o => HC.out _ (S8.old o)); have S8 := Lib.hid S8; have hB8 := Lib.hid hB8) | (go_at_call 24; refine HSB.out.mono ?_; rintro e w8 ⟨⟨a, m, rfl⟩, hB8⟩; have S8b := HBz.out.below hB8; have k4b := HC.out _ S8b.tail; obtain ⟨z0, z1, z2, z3, z4, z5, z6⟩ := in_cells S8b.hd; have f0b : ∀ i, w8.frozen? ⟨wr.heap.size, i, none⟩ = false := (fun i => free_at S8b.hd.get i); have S8c := ((((((S8b.put 0 (.int .i64 kd)).put 1 (.int .i64 rf)).put 2 (.int .i64 a)).put 3 (.int .i64 nd)).put 4 (.bool m.r)).put 5 (.bool m.w)).put 6 (.bool m.m); have Kset := Lib.hid (HC.out _ S8c.tail); have S8b := Lib.hid S8b; have hB8 := Lib.hid hB8; clear S8c)) | (go_simp; (first | (go_at_call 24; refine HSA.out.mono ?_; rintro e w8 ⟨⟨a, m, rfl⟩, hB8⟩; have S8 := HSk.out.drew.below hB8; have k4 := HC.out _ S8; have k4a := (fun o => HC.out _ (S8.old o)); have S8 := Lib.hid S8; have hB8 := Lib.hid hB8) | (go_at_call 24; refine HSB.out.mono ?_; rintro e w8 ⟨⟨a, m, rfl⟩, hB8⟩; have S8b := HBz.out.below hB8; have k4b := HC.out _ S8b.tail; obtain ⟨z0, z1, z2, z3, z4, z5, z6⟩ := in_cells S8b.hd; have f0b : ∀ i, w8.frozen? ⟨wr.heap.size, i, none⟩ = false := (fun i => free_at S8b.hd.get i); have S8c := ((((((S8b.put 0 (.int .i64 kd)).put 1 (.int .i64 rf)).put 2 (.int .i64 a)).put 3 (.int .i64 nd)).put 4 (.bool m.r)).put 5 (.bool m.w)).put 6 (.bool m.m); have Kset := Lib.hid (HC.out _ S8c.tail); have S8b := Lib.hid S8b; have hB8 := Lib.hid hB8; clear S8c)); (try go_wp2_with fail)) | go_simp); (refine hK.out _ _ ?_ (fun hHeld => ?_)); (focus ((try dsimp only); (first | done | (first | with_reducible exact k0 | with_reducible exact k0b | with_reducible exact k4 | with_reducible exact k4a _ | with_reducible exact k4b | with_reducible exact Kset.out)))); clear hK K; (try simp only [Act.put, List.setIfInBounds_toArray, List.set_cons_zero, List.set_cons_succ]))
                ((first | ((refine Go.Proofs.YtljlpkeddbfpaaaGreatDoor.tree_yes (v := ?_) (by rfl) ?_ ?_); rotate_left; (focus (intro w hSw; (try dsimp only at hSw); go_simp; try (with_reducible rfl)))) | (refine Go.Proofs.YtljlpkeddbfpaaaGreatDoor.tree_no (by rfl) ?_)); (try simp only [Act.put, List.setIfInBounds_toArray, List.set_cons_zero, List.set_cons_succ]))
                refine Go.Proofs.YtljlpkeddbfpaaaGreatDoor.tree_done ?_
              rotate_left 1
              focus
                ((first | (first | (go_at_call 24; refine HSA.out.mono ?_; rintro e w8 ⟨⟨a, m, rfl⟩, hB8⟩; have S8 := HSk.out.drew.below hB8; have k4 := HC.out _ S8; have k4a := (fun o => HC.out _ (S8.old o)); have S8 := Lib.hid S8; have hB8 := Lib.hid hB8) | (go_at_call 24; refine HSB.out.mono ?_; rintro e w8 ⟨⟨a, m, rfl⟩, hB8⟩; have S8b := HBz.out.below hB8; have k4b := HC.out _ S8b.tail; obtain ⟨z0, z1, z2, z3, z4, z5, z6⟩ := in_cells S8b.hd; have f0b : ∀ i, w8.frozen? ⟨wr.heap.size, i, none⟩ = false := (fun i => free_at S8b.hd.get i); have S8c := ((((((S8b.put 0 (.int .i64 kd)).put 1 (.int .i64 rf)).put 2 (.int .i64 a)).put 3 (.int .i64 nd)).put 4 (.bool m.r)).put 5 (.bool m.w)).put 6 (.bool m.m); have Kset := Lib.hid (HC.out _ S8c.tail); have S8b := Lib.hid S8b; have hB8 := Lib.hid hB8; clear S8c)) | (go_simp; (first | (go_at_call 24; refine HSA.out.mono ?_; rintro e w8 ⟨⟨a, m, rfl⟩, hB8⟩; have S8 := HSk.out.drew.below hB8; have k4 := HC.out _ S8; have k4a := (fun o => HC.out _ (S8.old o)); have S8 := Lib.hid S8; have hB8 := Lib.hid hB8) | (go_at_call 24; refine HSB.out.mono ?_; rintro e w8 ⟨⟨a, m, rfl⟩, hB8⟩; have S8b := HBz.out.below hB8; have k4b := HC.out _ S8b.tail; obtain ⟨z0, z1, z2, z3, z4, z5, z6⟩ := in_cells S8b.hd; have f0b : ∀ i, w8.frozen? ⟨wr.heap.size, i, none⟩ = false := (fun i => free_at S8b.hd.get i); have S8c := ((((((S8b.put 0 (.int .i64 kd)).put 1 (.int .i64 rf)).put 2 (.int .i64 a)).put 3 (.int .i64 nd)).put 4 (.bool m.r)).put 5 (.bool m.w)).put 6 (.bool m.m); have Kset := Lib.hid (HC.out _ S8c.tail); have S8b := Lib.hid S8b; have hB8 := Lib.hid hB8; clear S8c)); (try go_wp2_with fail)) | go_simp); (refine hK.out _ _ ?_ (fun hHeld => ?_)); (focus ((try dsimp only); (first | done | (first | with_reducible exact k0 | with_reducible exact k0b | with_reducible exact k4 | with_reducible exact k4a _ | with_reducible exact k4b | with_reducible exact Kset.out)))); clear hK K; (try simp only [Act.put, List.setIfInBounds_toArray, List.set_cons_zero, List.set_cons_succ]))
                ((refine Go.Proofs.YtljlpkeddbfpaaaGreatDoor.tree_step (fun K hK => ?_)); (first | (first | (go_at_call 24; refine HSA.out.mono ?_; rintro e w8 ⟨⟨a, m, rfl⟩, hB8⟩; have S8 := HSk.out.drew.below hB8; have k4 := HC.out _ S8; have k4a := (fun o => HC.out _ (S8.old o)); have S8 := Lib.hid S8; have hB8 := Lib.hid hB8) | (go_at_call 24; refine HSB.out.mono ?_; rintro e w8 ⟨⟨a, m, rfl⟩, hB8⟩; have S8b := HBz.out.below hB8; have k4b := HC.out _ S8b.tail; obtain ⟨z0, z1, z2, z3, z4, z5, z6⟩ := in_cells S8b.hd; have f0b : ∀ i, w8.frozen? ⟨wr.heap.size, i, none⟩ = false := (fun i => free_at S8b.hd.get i); have S8c := ((((((S8b.put 0 (.int .i64 kd)).put 1 (.int .i64 rf)).put 2 (.int .i64 a)).put 3 (.int .i64 nd)).put 4 (.bool m.r)).put 5 (.bool m.w)).put 6 (.bool m.m); have Kset := Lib.hid (HC.out _ S8c.tail); have S8b := Lib.hid S8b; have hB8 := Lib.hid hB8; clear S8c)) | (go_simp; (first | (go_at_call 24; refine HSA.out.mono ?_; rintro e w8 ⟨⟨a, m, rfl⟩, hB8⟩; have S8 := HSk.out.drew.below hB8; have k4 := HC.out _ S8; have k4a := (fun o => HC.out _ (S8.old o)); have S8 := Lib.hid S8; have hB8 := Lib.hid hB8) | (go_at_call 24; refine HSB.out.mono ?_; rintro e w8 ⟨⟨a, m, rfl⟩, hB8⟩; have S8b := HBz.out.below hB8; have k4b := HC.out _ S8b.tail; obtain ⟨z0, z1, z2, z3, z4, z5, z6⟩ := in_cells S8b.hd; have f0b : ∀ i, w8.frozen? ⟨wr.heap.size, i, none⟩ = false := (fun i => free_at S8b.hd.get i); have S8c := ((((((S8b.put 0 (.int .i64 kd)).put 1 (.int .i64 rf)).put 2 (.int .i64 a)).put 3 (.int .i64 nd)).put 4 (.bool m.r)).put 5 (.bool m.w)).put 6 (.bool m.m); have Kset := Lib.hid (HC.out _ S8c.tail); have S8b := Lib.hid S8b; have hB8 := Lib.hid hB8; clear S8c)); (try go_wp2_with fail)) | go_simp); (refine hK.out _ _ ?_ (fun hHeld => ?_)); (focus ((try dsimp only); (first | done | (first | with_reducible exact k0 | with_reducible exact k0b | with_reducible exact k4 | with_reducible exact k4a _ | with_reducible exact k4b | with_reducible exact Kset.out)))); clear hK K; (try simp only [Act.put, List.setIfInBounds_toArray, List.set_cons_zero, List.set_cons_succ]))
                ((first | ((refine Go.Proofs.YtljlpkeddbfpaaaGreatDoor.tree_yes (v := ?_) (by rfl) ?_ ?_); rotate_left; (focus (intro w hSw; (try dsimp only at hSw); go_simp; try (with_reducible rfl)))) | (refine Go.Proofs.YtljlpkeddbfpaaaGreatDoor.tree_no (by rfl) ?_)); (try simp only [Act.put, List.setIfInBounds_toArray, List.set_cons_zero, List.set_cons_succ]))
                ((first | ((refine Go.Proofs.YtljlpkeddbfpaaaGreatDoor.tree_yes (v := ?_) (by rfl) ?_ ?_); rotate_left; (focus (intro w hSw; (try dsimp only at hSw); go_simp; try (with_reducible rfl)))) | (refine Go.Proofs.YtljlpkeddbfpaaaGreatDoor.tree_no (by rfl) ?_)); (try simp only [Act.put, List.setIfInBounds_toArray, List.set_cons_zero, List.set_cons_succ]))
                ((first | ((refine Go.Proofs.YtljlpkeddbfpaaaGreatDoor.tree_yes (v := ?_) (by rfl) ?_ ?_); rotate_left; (focus (intro w hSw; (try dsimp only at hSw); go_simp; try (with_reducible rfl)))) | (refine Go.Proofs.YtljlpkeddbfpaaaGreatDoor.tree_no (by rfl) ?_)); (try simp only [Act.put, List.setIfInBounds_toArray, List.set_cons_zero, List.set_cons_succ]))
                ((refine Go.Proofs.YtljlpkeddbfpaaaGreatDoor.tree_step (fun K hK => ?_)); (first | (first | (go_at_call 24; refine HSA.out.mono ?_; rintro e w8 ⟨⟨a, m, rfl⟩, hB8⟩; have S8 := HSk.out.drew.below hB8; have k4 := HC.out _ S8; have k4a := (fun o => HC.out _ (S8.old o)); have S8 := Lib.hid S8; have hB8 := Lib.hid hB8) | (go_at_call 24; refine HSB.out.mono ?_; rintro e w8 ⟨⟨a, m, rfl⟩, hB8⟩; have S8b := HBz.out.below hB8; have k4b := HC.out _ S8b.tail; obtain ⟨z0, z1, z2, z3, z4, z5, z6⟩ := in_cells S8b.hd; have f0b : ∀ i, w8.frozen? ⟨wr.heap.size, i, none⟩ = false := (fun i => free_at S8b.hd.get i); have S8c := ((((((S8b.put 0 (.int .i64 kd)).put 1 (.int .i64 rf)).put 2 (.int .i64 a)).put 3 (.int .i64 nd)).put 4 (.bool m.r)).put 5 (.bool m.w)).put 6 (.bool m.m); have Kset := Lib.hid (HC.out _ S8c.tail); have S8b := Lib.hid S8b; have hB8 := Lib.hid hB8; clear S8c)) | (go_simp; (first | (go_at_call 24; refine HSA.out.mono ?_; rintro e w8 ⟨⟨a, m, rfl⟩, hB8⟩; have S8 := HSk.out.drew.below hB8; have k4 := HC.out _ S8; have k4a := (fun o => HC.out _ (S8.old o)); have S8 := Lib.hid S8; have hB8 := Lib.hid hB8) | (go_at_call 24; refine HSB.out.mono ?_; rintro e w8 ⟨⟨a, m, rfl⟩, hB8⟩; have S8b := HBz.out.below hB8; have k4b := HC.out _ S8b.tail; obtain ⟨z0, z1, z2, z3, z4, z5, z6⟩ := in_cells S8b.hd; have f0b : ∀ i, w8.frozen? ⟨wr.heap.size, i, none⟩ = false := (fun i => free_at S8b.hd.get i); have S8c := ((((((S8b.put 0 (.int .i64 kd)).put 1 (.int .i64 rf)).put 2 (.int .i64 a)).put 3 (.int .i64 nd)).put 4 (.bool m.r)).put 5 (.bool m.w)).put 6 (.bool m.m); have Kset := Lib.hid (HC.out _ S8c.tail); have S8b := Lib.hid S8b; have hB8 := Lib.hid hB8; clear S8c)); (try go_wp2_with fail)) | go_simp); (refine hK.out _ _ ?_ (fun hHeld => ?_)); (focus ((try dsimp only); (first | done | (first | with_reducible exact k0 | with_reducible exact k0b | with_reducible exact k4 | with_reducible exact k4a _ | with_reducible exact k4b | with_reducible exact Kset.out)))); clear hK K; (try simp only [Act.put, List.setIfInBounds_toArray, List.set_cons_zero, List.set_cons_succ]))
                ((first | ((refine Go.Proofs.YtljlpkeddbfpaaaGreatDoor.tree_yes (v := ?_) (by rfl) ?_ ?_); rotate_left; (focus (intro w hSw; (try dsimp only at hSw); go_simp; try (with_reducible rfl)))) | (refine Go.Proofs.YtljlpkeddbfpaaaGreatDoor.tree_no (by rfl) ?_)); (try simp only [Act.put, List.setIfInBounds_toArray, List.set_cons_zero, List.set_cons_succ]))
                refine Go.Proofs.YtljlpkeddbfpaaaGreatDoor.tree_done ?_
              all_goals
                first
                | (have R9 := Ran.new (Below.trans (Ran.drewN HRk.out 1) (below_ran hB8.out)) (inO kd rf a nd m); have S9 := S8.out.alloc (inO kd rf a nd m); obtain ⟨w6, hw6⟩ : ∃ w6, w6 = w8.alloc (inO kd rf a nd m) := ⟨_, rfl⟩; obtain ⟨ib, hib⟩ : ∃ ib, ib = w8.heap.size := ⟨_, rfl⟩; rw [← hw6] at R9 S9 ⊢; rw [← hib] at S9 ⊢)
                | (have R9 := Ran.set (Ran.set (Ran.set (Ran.set (Ran.set (Ran.set (Ran.set (Below.trans (Ran.drewN (Ran.new HRk.out (inO 0 0 0 0 ⟨false, false, false⟩)) 1) (below_ran hB8.out)) ⟨wr.heap.size, 0, none⟩ (.int .i64 kd)) ⟨wr.heap.size, 1, none⟩ (.int .i64 rf)) ⟨wr.heap.size, 2, none⟩ (.int .i64 a)) ⟨wr.heap.size, 3, none⟩ (.int .i64 nd)) ⟨wr.heap.size, 4, none⟩ (.bool m.r)) ⟨wr.heap.size, 5, none⟩ (.bool m.w)) ⟨wr.heap.size, 6, none⟩ (.bool m.m); have S9 := ((((((S8b.out.put 0 (.int .i64 kd)).put 1 (.int .i64 rf)).put 2 (.int .i64 a)).put 3 (.int .i64 nd)).put 4 (.bool m.r)).put 5 (.bool m.w)).put 6 (.bool m.m); obtain ⟨w6, hw6⟩ : ∃ w6, w6 = ((((((w8.setCell ⟨wr.heap.size, 0, none⟩ (.int .i64 kd)).setCell ⟨wr.heap.size, 1, none⟩ (.int .i64 rf)).setCell ⟨wr.heap.size, 2, none⟩ (.int .i64 a)).setCell ⟨wr.heap.size, 3, none⟩ (.int .i64 nd)).setCell ⟨wr.heap.size, 4, none⟩ (.bool m.r)).setCell ⟨wr.heap.size, 5, none⟩ (.bool m.w)).setCell ⟨wr.heap.size, 6, none⟩ (.bool m.m) := ⟨_, rfl⟩; obtain ⟨ib, hib⟩ : ∃ ib, ib = wr.heap.size := ⟨_, rfl⟩; rw [← hw6] at R9 S9 ⊢; rw [← hib] at S9 ⊢)
              all_goals
                have S9 : WS c wb s (pts ib (inO kd rf a nd m) * (pts hb (hdO a2 a3) * Q2 (some ⟨pb, po, none⟩) cp ks W)) w6 := S9
                have S9 := Lib.hid S9
                have R9 := Lib.hid R9
                clear hw6 hib
                go_wp2_with fail
                go_meet
                case rel => exact ⟨ib, a, m, rfl, rfl, S9.out, R9.out⟩
            case rest =>
              obtain ⟨ib, a, m, rfl, rfl, S9, R9⟩ := hcut
              have S9 := Lib.hid S9
              have R9 := Lib.hid R9
              clear HSA HSB HBz HC k0 k0b HSk HRk
              obtain ⟨hy, hkd, hnd, hrf⟩ := HY.out
              obtain ⟨mr, mw, mm⟩ := m
              have rf1 : (1 : Int) ≤ rf := by rw [hrf]; exact HTH.out.2.1
              obtain ⟨q0, q1, q2, q3, q4, q5, q6⟩ := in_cells S9.out.hd
              obtain ⟨t2, t3⟩ := hd_cells S9.out.tail.hd
              have fh : ∀ i, wc.frozen? ⟨hb, i, none⟩ = false := fun i => free_at S9.out.tail.hd.get i
              cases hyt : y.t with
              | file fk fa fm =>
                have hth := HTH.out.1
                unfold ThOk at hth
                rw [hyt] at hth hkd hnd
                replace hkd : kd = 1 := hkd
                replace hnd : nd = fk := hnd
                subst hkd
                rcases hth.1 with h2 | h3
                · rw [h2] at hnd
                  subst hnd
                  have f2 : cF 2 y = 1 := by unfold cF; rw [hyt]; exact if_pos h2
                  have f3 : cF 3 y = 0 := by unfold cF; rw [hyt]; exact if_neg (by omega)
                  have fr : cR y = 0 := by unfold cR; rw [hyt]
                  have fw : cW y = 0 := by unfold cW; rw [hyt]
                  have HN2 : Hid (((a2 + 1 : Nat) = sumK (cF 2) s.L (ks.take (k + 1))) ∧ a3 = sumK (cF 3) s.L (ks.take (k + 1)) ∧ ar = sumK cR s.L (ks.take (k + 1)) ∧ aw = sumK cW s.L (ks.take (k + 1))) := Lib.hid (by rw [HT.out, HT.out, HT.out, HT.out, f2, f3, fr, fw, ← HE.out.1, ← HE.out.2.1, ← HE.out.2.2.1, ← HE.out.2.2.2]; exact ⟨rfl, rfl, rfl, rfl⟩)
                  have SZ := Lib.hid (((S9.out.drew.tail).put 2 (.int .i64 ((a2 : Int) + 1))))
                  have RZ := Lib.hid (Ran.set (Ran.drewN R9.out 1) ⟨hb, 2, none⟩ (.int .i64 ((a2 : Int) + 1)))
                  clear hy hyt hth hrf h2 f2 f3 fr fw HTH HT HY
                  go_upto_region 22 with fail
                  go_still_tail 10, (by kernel_rfl)
                  go_wp2_with fail
                  go_roundg (gz - 1)
                  case rel => exact ⟨k + 1, a2 + 1, a3, ar, aw, by simp, by omega, rfl, rfl, HN2.out.1, HN2.out.2.1, HN2.out.2.2.1, HN2.out.2.2.2, SZ.out, RZ.out⟩
                  case measure => omega
                · rw [h3] at hnd
                  subst hnd
                  have f2 : cF 2 y = 0 := by unfold cF; rw [hyt]; exact if_neg (by omega)
                  have f3 : cF 3 y = 1 := by unfold cF; rw [hyt]; exact if_pos h3
                  have fr : cR y = 0 := by unfold cR; rw [hyt]
                  have fw : cW y = 0 := by unfold cW; rw [hyt]
                  have HN2 : Hid ((a2 = sumK (cF 2) s.L (ks.take (k + 1))) ∧ (a3 + 1 : Nat) = sumK (cF 3) s.L (ks.take (k + 1)) ∧ ar = sumK cR s.L (ks.take (k + 1)) ∧ aw = sumK cW s.L (ks.take (k + 1))) := Lib.hid (by rw [HT.out, HT.out, HT.out, HT.out, f2, f3, fr, fw, ← HE.out.1, ← HE.out.2.1, ← HE.out.2.2.1, ← HE.out.2.2.2]; exact ⟨rfl, rfl, rfl, rfl⟩)
                  have SZ := Lib.hid (((S9.out.drew.tail).put 3 (.int .i64 ((a3 : Int) + 1))))
                  have RZ := Lib.hid (Ran.set (Ran.drewN R9.out 1) ⟨hb, 3, none⟩ (.int .i64 ((a3 : Int) + 1)))
                  clear hy hyt hth hrf h3 f2 f3 fr fw HTH HT HY
                  go_upto_region 22 with fail
                  go_still_tail 10, (by kernel_rfl)
                  go_wp2_with fail
                  go_roundg (gz - 1)
                  case rel => exact ⟨k + 1, a2, a3 + 1, ar, aw, by simp, by omega, rfl, rfl, HN2.out.1, HN2.out.2.1, HN2.out.2.2.1, HN2.out.2.2.2, SZ.out, RZ.out⟩
                  case measure => omega
              | text ft fa =>
                rw [hyt] at hkd hnd
                replace hkd : kd = 2 := hkd
                replace hnd : nd = 0 := hnd
                subst hkd
                subst hnd
                have f2 : cF 2 y = 0 := by unfold cF; rw [hyt]
                have f3 : cF 3 y = 0 := by unfold cF; rw [hyt]
                have fr : cR y = 0 := by unfold cR; rw [hyt]
                have fw : cW y = 0 := by unfold cW; rw [hyt]
                have HN2 : Hid (a2 = sumK (cF 2) s.L (ks.take (k + 1)) ∧ a3 = sumK (cF 3) s.L (ks.take (k + 1)) ∧ ar = sumK cR s.L (ks.take (k + 1)) ∧ aw = sumK cW s.L (ks.take (k + 1))) := Lib.hid (by rw [HT.out, HT.out, HT.out, HT.out, f2, f3, fr, fw, ← HE.out.1, ← HE.out.2.1, ← HE.out.2.2.1, ← HE.out.2.2.2]; exact ⟨rfl, rfl, rfl, rfl⟩)
                have SZ := Lib.hid S9.out.tail
                clear hy hyt hrf f2 f3 fr fw HTH HT HY S9
                go_wp2_with fail
                go_roundg (gz - 1)
                case rel => exact ⟨k + 1, a2, a3, ar, aw, by simp, by omega, by simp, by simp, HN2.out.1, HN2.out.2.1, HN2.out.2.2.1, HN2.out.2.2.2, SZ.out, R9.out⟩
                case measure => omega
              | sink fs fq fc fl fm =>
                rw [hyt] at hkd hnd
                replace hkd : kd = 3 := hkd
                replace hnd : nd = 0 := hnd
                subst hkd
                subst hnd
                have f2 : cF 2 y = 0 := by unfold cF; rw [hyt]
                have f3 : cF 3 y = 0 := by unfold cF; rw [hyt]
                have fr : cR y = 0 := by unfold cR; rw [hyt]
                have fw : cW y = 0 := by unfold cW; rw [hyt]
                have HN2 : Hid (a2 = sumK (cF 2) s.L (ks.take (k + 1)) ∧ a3 = sumK (cF 3) s.L (ks.take (k + 1)) ∧ ar = sumK cR s.L (ks.take (k + 1)) ∧ aw = sumK cW s.L (ks.take (k + 1))) := Lib.hid (by rw [HT.out, HT.out, HT.out, HT.out, f2, f3, fr, fw, ← HE.out.1, ← HE.out.2.1, ← HE.out.2.2.1, ← HE.out.2.2.2]; exact ⟨rfl, rfl, rfl, rfl⟩)
                have SZ := Lib.hid S9.out.tail
                clear hy hyt hrf f2 f3 fr fw HTH HT HY S9
                go_wp2_with fail
                go_roundg (gz - 1)
                case rel => exact ⟨k + 1, a2, a3, ar, aw, by simp, by omega, by simp, by simp, HN2.out.1, HN2.out.2.1, HN2.out.2.2.1, HN2.out.2.2.2, SZ.out, R9.out⟩
                case measure => omega
              | reader fb fe =>
                rw [hyt] at hkd hnd
                replace hkd : kd = 4 := hkd
                replace hnd : nd = 0 := hnd
                subst hkd
                subst hnd
                have f2 : cF 2 y = 0 := by unfold cF; rw [hyt]
                have f3 : cF 3 y = 0 := by unfold cF; rw [hyt]
                have fr : cR y = 1 := by unfold cR; rw [hyt]
                have fw : cW y = 0 := by unfold cW; rw [hyt]
                have HN2 : Hid (a2 = sumK (cF 2) s.L (ks.take (k + 1)) ∧ a3 = sumK (cF 3) s.L (ks.take (k + 1)) ∧ (ar + 1 : Nat) = sumK cR s.L (ks.take (k + 1)) ∧ aw = sumK cW s.L (ks.take (k + 1))) := Lib.hid (by rw [HT.out, HT.out, HT.out, HT.out, f2, f3, fr, fw, ← HE.out.1, ← HE.out.2.1, ← HE.out.2.2.1, ← HE.out.2.2.2]; exact ⟨rfl, rfl, rfl, rfl⟩)
                have SZ := Lib.hid S9.out.tail
                clear hy hyt hrf f2 f3 fr fw HTH HT HY S9
                go_wp2_with fail
                go_roundg (gz - 1)
                case rel => exact ⟨k + 1, a2, a3, ar + 1, aw, by simp, by omega, by simp, by simp, HN2.out.1, HN2.out.2.1, HN2.out.2.2.1, HN2.out.2.2.2, SZ.out, R9.out⟩
                case measure => omega
              | writer fb fe =>
                rw [hyt] at hkd hnd
                replace hkd : kd = 5 := hkd
                replace hnd : nd = 0 := hnd
                subst hkd
                subst hnd
                have f2 : cF 2 y = 0 := by unfold cF; rw [hyt]
                have f3 : cF 3 y = 0 := by unfold cF; rw [hyt]
                have fr : cR y = 0 := by unfold cR; rw [hyt]
                have fw : cW y = 1 := by unfold cW; rw [hyt]
                have HN2 : Hid (a2 = sumK (cF 2) s.L (ks.take (k + 1)) ∧ a3 = sumK (cF 3) s.L (ks.take (k + 1)) ∧ ar = sumK cR s.L (ks.take (k + 1)) ∧ (aw + 1 : Nat) = sumK cW s.L (ks.take (k + 1))) := Lib.hid (by rw [HT.out, HT.out, HT.out, HT.out, f2, f3, fr, fw, ← HE.out.1, ← HE.out.2.1, ← HE.out.2.2.1, ← HE.out.2.2.2]; exact ⟨rfl, rfl, rfl, rfl⟩)
                have SZ := Lib.hid S9.out.tail
                clear hy hyt hrf f2 f3 fr fw HTH HT HY S9
                go_wp2_with fail
                go_roundg (gz - 1)
                case rel => exact ⟨k + 1, a2, a3, ar, aw + 1, by simp, by omega, by simp, by simp, HN2.out.1, HN2.out.2.1, HN2.out.2.2.1, HN2.out.2.2.2, SZ.out, R9.out⟩
                case measure => omega
          · have hge : (ks.length : Int) ≤ (k : Int) := by omega
            have hke : k = ks.length := by omega
            have hsum : ∀ f : Hn → Nat, sumK f s.L (ks.take k) = sumA f s.L := fun f => by rw [hke, List.take_length]; exact HI5.out.sum_keys HK.out f
            obtain ⟨e2, e3, er', ew⟩ := HE.out
            rw [hsum] at e2 e3 er' ew
            have HE2 := Lib.hid (And.intro e2 (And.intro e3 (And.intro er' ew)))
            have HSk := Lib.hid HSk
            have HRk := Lib.hid HRk
            clear hke hsum e2 e3 er' ew HE
            go_wp2_with fail
            go_loopg [13, 14, 15] 8 (fun (g : Nat) (v13 v14 v15 : Value) (wr : World) => Rel3 c wb W s (pts hb (hdO a2 a3) * Q2 p cp ks W) g v13 wr)
            case atStart => exact ⟨1, rfl, Nat.le_refl _, rfl, HSk.out, HRk.out⟩
            case round =>
              clear HSk HRk
              obtain ⟨n, rfl, hn1, hn9, HSn, HRn⟩ := hrel
              obtain ⟨gy, hgy⟩ : ∃ gy, gy = gk := ⟨_, rfl⟩
              by_cases hn8 : n ≤ 8
              · have hn8I : (n : Int) ≤ 8 := by omega
                have hn9J : (n : Int) < 9 := by omega
                have hn9K : n < 9 := by omega
                have hn1I : (1 : Int) ≤ (n : Int) := by omega
                have c0 := HSn.wo.1
                have HFS := Lib.hid (fstat_st (c := c) (n := (n : Int)) HI5.out (by unfold I64; omega) HSn)
                obtain ⟨hv, hhv⟩ : ∃ hv, hv = holdsOf s.F (n : Int) := ⟨_, rfl⟩
                rw [← hhv] at HFS
                have HV := Lib.hid (fun (W' : World) (h : WS c wb s (pts hb (hdO a2 a3) * Q2 p cp ks W) W') => (by
                  have hb' := h.hd.get
                  rw [hhv, HI5.out.holds_eq]
                  rw [cell_at hb']
                  have oth : ∀ j : Int, j ≠ 2 → j ≠ 3 → ((sumA (cF j) s.L : Nat) : Int) = 0 := fun j h2 h3 => by rw [sumA_zero (cF j) s.L fun q x hm => HI5.out.file_node (mem_find s.L q x HI5.out.nd hm) j h2 h3]; rfl
                  rcases (show n = 1 ∨ n = 2 ∨ n = 3 ∨ n = 4 ∨ n = 5 ∨ n = 6 ∨ n = 7 ∨ n = 8 by omega) with rfl | rfl | rfl | rfl | rfl | rfl | rfl | rfl
                  · rw [oth _ (by decide) (by decide)]; rfl
                  · rw [HE2.out.1]; rfl
                  · rw [HE2.out.2.1]; rfl
                  · rw [oth _ (by decide) (by decide)]; rfl
                  · rw [oth _ (by decide) (by decide)]; rfl
                  · rw [oth _ (by decide) (by decide)]; rfl
                  · rw [oth _ (by decide) (by decide)]; rfl
                  · rw [oth _ (by decide) (by decide)]; rfl : W'.cell? ⟨hb, n, none⟩ = some (.int .i64 hv)))
                have HSn := Lib.hid HSn
                have HRn := Lib.hid HRn
                clear hhv
                go_wp2_with fail
                refine HFS.out.mono ?_
                rintro e w8 ⟨⟨fk, fz, fm, fe, rfl⟩, hB8⟩
                have S8 := (HSn.out.below hB8).alloc (infoO fk fz fm hv)
                have R8 := Lib.hid (Ran.new (Below.trans HRn.out (below_ran hB8)) (infoO fk fz fm hv))
                obtain ⟨ib, hib⟩ : ∃ ib, ib = w8.heap.size := ⟨_, rfl⟩
                obtain ⟨w9, hw9⟩ : ∃ w9, w9 = w8.alloc (infoO fk fz fm hv) := ⟨_, rfl⟩
                rw [← hib, ← hw9] at S8
                rw [← hw9] at R8
                have q3 := (info_cells S8.drew.hd).2.2.2
                have t3 := HV.out _ S8.drew.tail
                have S8 := Lib.hid S8.tail
                clear HFS HSn HRn c0 hB8
                go_upto_region 31 with fail
                rw [← hib, ← hw9]
                clear hib hw9
                refine Go.Proofs.YtljlpkeddbfpaaaGreatDoor.region_plan (S := (fun w' => w'.cell? ⟨ib, 3, none⟩ = some (.int .i64 hv) ∧ w'.cell? ⟨hb, n, none⟩ = some (.int .i64 hv))) [(0, true), (1, true), (2, true), (3, true), (4, true), (5, true), (6, true)] (by kernel_rfl) (by kernel_rfl) (by kernel_rfl) ?_ ?_
                · ((try dsimp only); (first | done | (exact ⟨q3, t3⟩)))
                simp only [Go.Proofs.YtljlpkeddbfpaaaGreatDoor.planOps, List.map_cons, List.map_nil, List.getElem?_toArray, List.getElem?_cons_zero, List.getElem?_cons_succ]
                repeat (first
                  | ((refine Go.Proofs.YtljlpkeddbfpaaaGreatDoor.plan_yes (v := ?_) (by rfl) ?_ ?_); rotate_left; (focus (intro w hSw; (try dsimp only at hSw); go_simp; try (with_reducible rfl))); (try simp only [Act.put, List.setIfInBounds_toArray, List.set_cons_zero, List.set_cons_succ]))
                  | ((refine Go.Proofs.YtljlpkeddbfpaaaGreatDoor.plan_no (by rfl) ?_); (try simp only [Act.put, List.setIfInBounds_toArray, List.set_cons_zero, List.set_cons_succ]))
                  | ((refine Go.Proofs.YtljlpkeddbfpaaaGreatDoor.plan_step (fun K hK => ?_)); (first | (fail) | (go_simp; (fail); (try go_wp2_with fail)) | go_simp); (refine hK.out _ _ ?_ (fun hHeld => ?_)); (focus ((try dsimp only); (first | done | (exact ⟨q3, t3⟩)))); clear hK K; (try simp only [Act.put, List.setIfInBounds_toArray, List.set_cons_zero, List.set_cons_succ])))
                refine Go.Proofs.YtljlpkeddbfpaaaGreatDoor.plan_done ?_
                go_wp2_with fail
                go_roundg (gy - 1)
                case rel => exact ⟨n + 1, by simp, by omega, by omega, S8.out.drew, Ran.drewN R8.out 1⟩
                case measure => omega
              · have hn9I : (n : Int) = 9 := by omega
                have hn8I : (8 : Int) < (n : Int) := by omega
                have c1 := HSn.wo.2.1
                have HBu := Lib.hid (buffers_st (c := c) HSn)
                have HSZ := Lib.hid (HSn.tail.tail : WS c wb s (keep W) wr)
                have HRZ := Lib.hid HRn
                clear HSn HRn
                obtain ⟨pl, hpl⟩ : ∃ pl, pl = s.P.length := ⟨_, rfl⟩
                rw [← hpl] at HBu
                have hbuf := HI5.out.buffers
                rw [← HE2.out.2.2.1, ← HE2.out.2.2.2, ← hpl] at hbuf
                have hm1 : ¬ (pl : Int) < max (ar : Int) (aw : Int) := by omega
                have hm2 : decide ((pl : Int) < max (ar : Int) (aw : Int)) = false := decide_eq_false hm1
                have hm3 : ¬ (ar : Int) + (aw : Int) < (pl : Int) := by omega
                have hm4 : decide ((ar : Int) + (aw : Int) < (pl : Int)) = false := decide_eq_false hm3
                clear hbuf hpl
                go_wp2_with fail
                refine HBu.out.mono ?_
                rintro e w8 ⟨rfl, rfl⟩
                go_wp2_with fail
                refine HBu.out.mono ?_
                rintro e w8 ⟨rfl, rfl⟩
                clear HBu
                go_wp2_with fail
                go_roundg (gj - 1)
                case rel => exact ⟨i + 1, s, by simp, by omega, HI5.out, HSZ.out, HRZ.out⟩
                case measure => omega
      · have hge : (l.length : Int) ≤ (i : Int) := by omega
        have h40 : l.length ≤ 40 := HFw.out.1
        have hiM : i ≤ 100 := by omega
        have hi40 : i ≤ 40 := by omega
        have c2 := HSi.wo.2.2
        have HAl := Lib.hid (all_st (c := c) hiM hI HSi)
        have HI5 := Lib.hid hI
        have HRi := Lib.hid HRi
        clear hI HSi
        go_wp2_with fail
        refine HAl.out.mono ?_
        rintro e w7 ⟨⟨p, cp, ks, rfl, hks, S7⟩, hB7⟩
        have S7 : WS c wb s0 (Q2 p cp ks W) w7 := S7.perm (show _ = SgHp c s0 * (pts wb (wdO c.fb c.bp c.tb) * (arr 3 1 p ks.length cp (ks.map iv) * keep W)) by ac_rfl)
        have R7 := Lib.hid (Below.trans HRi.out (below_ran hB7))
        have S7 := Lib.hid S7
        have hkl : ks.length ≤ 80 := by have h1 := HI5.out.keys_len hks; have h2 := HI5.out.lenL; omega
        have HK := Lib.hid hks
        have hkI : (ks.length : Int) ≤ 80 := by omega
        clear HAl HRi hB7 hks c2
        go_wp2_with fail
        go_loopg [17, 18, 19, 20] (ks.length) (fun (g : Nat) (v17 v18 v19 v20 : Value) (wr : World) => Rel4 c wb W i p cp ks g v17 wr)
        case atStart => exact ⟨0, s0, rfl, by omega, HI5.out, fun j => by rw [List.drop_zero, HK.out.2 j, hblk_some], S7.out, R7.out⟩
        case round =>
          clear S7 R7 HI5
          obtain ⟨k, s, rfl, hgk2, hIs, hmem, HSk, HRk⟩ := hrel
          obtain ⟨gz, hgz⟩ : ∃ gz, gz = gk := ⟨_, rfl⟩
          by_cases hlk : k < ks.length
          · have hlkI : (k : Int) < (ks.length : Int) := by omega
            have hk0 : (0 : Int) ≤ (k : Int) := by omega
            obtain ⟨id, hid⟩ : ∃ id, id = ks[k] := ⟨_, rfl⟩
            have hdrop : ks.drop k = id :: ks.drop (k + 1) := by rw [hid]; exact List.drop_eq_getElem_cons hlk
            obtain ⟨pb, po, rfl⟩ := arr_iv hlk HSk.rest
            obtain ⟨y, hy⟩ := Option.isSome_iff_exists.1 ((hmem id).2 (by rw [hdrop]; exact List.mem_cons_self))
            have hidI : I64 id := by have := hIs.ids id y hy; unfold I64; omega
            have hnot : id ∉ ks.drop (k + 1) := fun hm => by
              have hp := HK.out.1.sublist (List.drop_sublist k ks)
              rw [hdrop] at hp
              have := List.rel_of_pairwise_cons hp hm
              omega
            have HID := Lib.hid hid
            have HSk := Lib.hid HSk
            have HRk := Lib.hid HRk
            have hrefs := hIs.refs id y hy
            have HMM := Lib.hid (And.intro hnot (fun j (hj : j ≠ id) => (by rw [hmem j, hdrop, List.mem_cons]; exact ⟨fun h => h.resolve_left hj, fun h => .inr h⟩ : (findA s.L j).isSome = true ↔ j ∈ ks.drop (k + 1))))
            have HI5 := Lib.hid hIs
            clear hid hdrop hnot hmem hIs
            have HSA := Lib.hid (stat_st (c := c) hiM HI5.out hidI hy HSk.out.drew)
            have HSB := Lib.hid (stat_st (c := c) hiM HI5.out hidI hy (HSk.out.old (inO 0 0 0 0 ⟨false, false, false⟩)).drew)
            have HBz := Lib.hid ((HSk.out.alloc (inO 0 0 0 0 ⟨false, false, false⟩)).drew)
            obtain ⟨kd, hkd⟩ : ∃ kd, kd = knd y.t := ⟨_, rfl⟩
            obtain ⟨nd, hnd⟩ : ∃ nd, nd = nod y.t := ⟨_, rfl⟩
            obtain ⟨rf, hrf⟩ : ∃ rf, rf = y.refs := ⟨_, rfl⟩
            rw [← hkd, ← hnd, ← hrf] at HSA HSB
            have HY := Lib.hid (And.intro hy (And.intro hkd (And.intro hnd hrf)))
            have HC := Lib.hid (fun (W' : World) (h : WS c wb s (Q2 (some ⟨pb, po, none⟩) cp ks W) W') => (And.intro h.wo.2.2 ((fun {W' : World} (h : WS c wb s (Q2 (some ⟨pb, po, none⟩) cp ks W) W') => (by rw [HID.out]; exact arr_at hlk h.rest : W'.cell? ⟨pb, po + k, none⟩ = some (.int .i64 id))) h) : W'.cell? ⟨wb, 2, none⟩ = some (pp c.tb) ∧ W'.cell? ⟨pb, po + k, none⟩ = some (.int .i64 id)))
            have k0 := HC.out _ HSk.out.drew
            have k0b := HC.out _ (HSk.out.old (inO 0 0 0 0 ⟨false, false, false⟩)).drew
            clear hy hkd hnd hrf
            go_upto_region 39 with fail
            go_cut [18, 19] from 147 to 180 (fun sx se wx => ∃ (ib : Nat) (a : Int) (m : Md), sx = .pointer (some ⟨ib, 0, none⟩) ∧ se = .int .i64 0 ∧ WS c wb s (pts ib (inO kd rf a nd m) * (Q2 (some ⟨pb, po, none⟩) cp ks W)) wx ∧ Ran W wx)
            case first =>
              refine Go.Proofs.YtljlpkeddbfpaaaGreatDoor.region_tree (S := (fun w' => w'.cell? ⟨wb, 2, none⟩ = some (pp c.tb) ∧ w'.cell? ⟨pb, po + k, none⟩ = some (.int .i64 id))) (.take 0 (.take 1 (.take 2 (.take 3 (.take 4 (.take 5 (.fork 6 (.take 7 (.take 8 (.take 9 (.step 10 (.step 11 (.take 12 (.nil))))))) 10 (.step 6 (.take 7 (.take 8 (.take 9 (.step 11 (.take 12 (.nil)))))))))))))) (by kernel_rfl) (by kernel_rfl) (by kernel_rfl) ?_ ?_
              · ((try dsimp only); (first | done | (first | with_reducible exact k0 | with_reducible exact k0b | with_reducible exact k4 | with_reducible exact k4a _ | with_reducible exact k4b | with_reducible exact Kset.out)))
              simp only [Go.Proofs.YtljlpkeddbfpaaaGreatDoor.Plan.ops, List.getElem?_toArray, List.getElem?_cons_zero, List.getElem?_cons_succ]
              ((first | ((refine Go.Proofs.YtljlpkeddbfpaaaGreatDoor.tree_yes (v := ?_) (by rfl) ?_ ?_); rotate_left; (focus (intro w hSw; (try dsimp only at hSw); go_simp; try (with_reducible rfl)))) | (refine Go.Proofs.YtljlpkeddbfpaaaGreatDoor.tree_no (by rfl) ?_)); (try simp only [Act.put, List.setIfInBounds_toArray, List.set_cons_zero, List.set_cons_succ]))
              ((first | ((refine Go.Proofs.YtljlpkeddbfpaaaGreatDoor.tree_yes (v := ?_) (by rfl) ?_ ?_); rotate_left; (focus (intro w hSw; (try dsimp only at hSw); go_simp; try (with_reducible rfl)))) | (refine Go.Proofs.YtljlpkeddbfpaaaGreatDoor.tree_no (by rfl) ?_)); (try simp only [Act.put, List.setIfInBounds_toArray, List.set_cons_zero, List.set_cons_succ]))
              ((first | ((refine Go.Proofs.YtljlpkeddbfpaaaGreatDoor.tree_yes (v := ?_) (by rfl) ?_ ?_); rotate_left; (focus (intro w hSw; (try dsimp only at hSw); go_simp; try (with_reducible rfl)))) | (refine Go.Proofs.YtljlpkeddbfpaaaGreatDoor.tree_no (by rfl) ?_)); (try simp only [Act.put, List.setIfInBounds_toArray, List.set_cons_zero, List.set_cons_succ]))
              ((first | ((refine Go.Proofs.YtljlpkeddbfpaaaGreatDoor.tree_yes (v := ?_) (by rfl) ?_ ?_); rotate_left; (focus (intro w hSw; (try dsimp only at hSw); go_simp; try (with_reducible rfl)))) | (refine Go.Proofs.YtljlpkeddbfpaaaGreatDoor.tree_no (by rfl) ?_)); (try simp only [Act.put, List.setIfInBounds_toArray, List.set_cons_zero, List.set_cons_succ]))
              ((first | ((refine Go.Proofs.YtljlpkeddbfpaaaGreatDoor.tree_yes (v := ?_) (by rfl) ?_ ?_); rotate_left; (focus (intro w hSw; (try dsimp only at hSw); go_simp; try (with_reducible rfl)))) | (refine Go.Proofs.YtljlpkeddbfpaaaGreatDoor.tree_no (by rfl) ?_)); (try simp only [Act.put, List.setIfInBounds_toArray, List.set_cons_zero, List.set_cons_succ]))
              ((first | ((refine Go.Proofs.YtljlpkeddbfpaaaGreatDoor.tree_yes (v := ?_) (by rfl) ?_ ?_); rotate_left; (focus (intro w hSw; (try dsimp only at hSw); go_simp; try (with_reducible rfl)))) | (refine Go.Proofs.YtljlpkeddbfpaaaGreatDoor.tree_no (by rfl) ?_)); (try simp only [Act.put, List.setIfInBounds_toArray, List.set_cons_zero, List.set_cons_succ]))
              refine Go.Proofs.YtljlpkeddbfpaaaGreatDoor.tree_fork (fun K hK => ?_) (fun K hK => ?_)
              focus
                ((first | (first | (go_at_call 24; refine HSA.out.mono ?_; rintro e w8 ⟨⟨a, m, rfl⟩, hB8⟩; have S8 := HSk.out.drew.below hB8; have k4 := HC.out _ S8; have k4a := (fun o => HC.out _ (S8.old o)); have S8 := Lib.hid S8; have hB8 := Lib.hid hB8) | (go_at_call 24; refine HSB.out.mono ?_; rintro e w8 ⟨⟨a, m, rfl⟩, hB8⟩; have S8b := HBz.out.below hB8; have k4b := HC.out _ S8b.tail; obtain ⟨z0, z1, z2, z3, z4, z5, z6⟩ := in_cells S8b.hd; have f0b : ∀ i, w8.frozen? ⟨wr.heap.size, i, none⟩ = false := (fun i => free_at S8b.hd.get i); have S8c := ((((((S8b.put 0 (.int .i64 kd)).put 1 (.int .i64 rf)).put 2 (.int .i64 a)).put 3 (.int .i64 nd)).put 4 (.bool m.r)).put 5 (.bool m.w)).put 6 (.bool m.m); have Kset := Lib.hid (HC.out _ S8c.tail); have S8b := Lib.hid S8b; have hB8 := Lib.hid hB8; clear S8c)) | (go_simp; (first | (go_at_call 24; refine HSA.out.mono ?_; rintro e w8 ⟨⟨a, m, rfl⟩, hB8⟩; have S8 := HSk.out.drew.below hB8; have k4 := HC.out _ S8; have k4a := (fun o => HC.out _ (S8.old o)); have S8 := Lib.hid S8; have hB8 := Lib.hid hB8) | (go_at_call 24; refine HSB.out.mono ?_; rintro e w8 ⟨⟨a, m, rfl⟩, hB8⟩; have S8b := HBz.out.below hB8; have k4b := HC.out _ S8b.tail; obtain ⟨z0, z1, z2, z3, z4, z5, z6⟩ := in_cells S8b.hd; have f0b : ∀ i, w8.frozen? ⟨wr.heap.size, i, none⟩ = false := (fun i => free_at S8b.hd.get i); have S8c := ((((((S8b.put 0 (.int .i64 kd)).put 1 (.int .i64 rf)).put 2 (.int .i64 a)).put 3 (.int .i64 nd)).put 4 (.bool m.r)).put 5 (.bool m.w)).put 6 (.bool m.m); have Kset := Lib.hid (HC.out _ S8c.tail); have S8b := Lib.hid S8b; have hB8 := Lib.hid hB8; clear S8c)); (try go_wp2_with fail)) | go_simp); (refine hK.out _ _ ?_ (fun hHeld => ?_)); (focus ((try dsimp only); (first | done | (first | with_reducible exact k0 | with_reducible exact k0b | with_reducible exact k4 | with_reducible exact k4a _ | with_reducible exact k4b | with_reducible exact Kset.out)))); clear hK K; (try simp only [Act.put, List.setIfInBounds_toArray, List.set_cons_zero, List.set_cons_succ]))
                ((first | ((refine Go.Proofs.YtljlpkeddbfpaaaGreatDoor.tree_yes (v := ?_) (by rfl) ?_ ?_); rotate_left; (focus (intro w hSw; (try dsimp only at hSw); go_simp; try (with_reducible rfl)))) | (refine Go.Proofs.YtljlpkeddbfpaaaGreatDoor.tree_no (by rfl) ?_)); (try simp only [Act.put, List.setIfInBounds_toArray, List.set_cons_zero, List.set_cons_succ]))
                ((first | ((refine Go.Proofs.YtljlpkeddbfpaaaGreatDoor.tree_yes (v := ?_) (by rfl) ?_ ?_); rotate_left; (focus (intro w hSw; (try dsimp only at hSw); go_simp; try (with_reducible rfl)))) | (refine Go.Proofs.YtljlpkeddbfpaaaGreatDoor.tree_no (by rfl) ?_)); (try simp only [Act.put, List.setIfInBounds_toArray, List.set_cons_zero, List.set_cons_succ]))
                ((first | ((refine Go.Proofs.YtljlpkeddbfpaaaGreatDoor.tree_yes (v := ?_) (by rfl) ?_ ?_); rotate_left; (focus (intro w hSw; (try dsimp only at hSw); go_simp; try (with_reducible rfl)))) | (refine Go.Proofs.YtljlpkeddbfpaaaGreatDoor.tree_no (by rfl) ?_)); (try simp only [Act.put, List.setIfInBounds_toArray, List.set_cons_zero, List.set_cons_succ]))
                ((refine Go.Proofs.YtljlpkeddbfpaaaGreatDoor.tree_step (fun K hK => ?_)); (first | (first | (go_at_call 24; refine HSA.out.mono ?_; rintro e w8 ⟨⟨a, m, rfl⟩, hB8⟩; have S8 := HSk.out.drew.below hB8; have k4 := HC.out _ S8; have k4a := (fun o => HC.out _ (S8.old o)); have S8 := Lib.hid S8; have hB8 := Lib.hid hB8) | (go_at_call 24; refine HSB.out.mono ?_; rintro e w8 ⟨⟨a, m, rfl⟩, hB8⟩; have S8b := HBz.out.below hB8; have k4b := HC.out _ S8b.tail; obtain ⟨z0, z1, z2, z3, z4, z5, z6⟩ := in_cells S8b.hd; have f0b : ∀ i, w8.frozen? ⟨wr.heap.size, i, none⟩ = false := (fun i => free_at S8b.hd.get i); have S8c := ((((((S8b.put 0 (.int .i64 kd)).put 1 (.int .i64 rf)).put 2 (.int .i64 a)).put 3 (.int .i64 nd)).put 4 (.bool m.r)).put 5 (.bool m.w)).put 6 (.bool m.m); have Kset := Lib.hid (HC.out _ S8c.tail); have S8b := Lib.hid S8b; have hB8 := Lib.hid hB8; clear S8c)) | (go_simp; (first | (go_at_call 24; refine HSA.out.mono ?_; rintro e w8 ⟨⟨a, m, rfl⟩, hB8⟩; have S8 := HSk.out.drew.below hB8; have k4 := HC.out _ S8; have k4a := (fun o => HC.out _ (S8.old o)); have S8 := Lib.hid S8; have hB8 := Lib.hid hB8) | (go_at_call 24; refine HSB.out.mono ?_; rintro e w8 ⟨⟨a, m, rfl⟩, hB8⟩; have S8b := HBz.out.below hB8; have k4b := HC.out _ S8b.tail; obtain ⟨z0, z1, z2, z3, z4, z5, z6⟩ := in_cells S8b.hd; have f0b : ∀ i, w8.frozen? ⟨wr.heap.size, i, none⟩ = false := (fun i => free_at S8b.hd.get i); have S8c := ((((((S8b.put 0 (.int .i64 kd)).put 1 (.int .i64 rf)).put 2 (.int .i64 a)).put 3 (.int .i64 nd)).put 4 (.bool m.r)).put 5 (.bool m.w)).put 6 (.bool m.m); have Kset := Lib.hid (HC.out _ S8c.tail); have S8b := Lib.hid S8b; have hB8 := Lib.hid hB8; clear S8c)); (try go_wp2_with fail)) | go_simp); (refine hK.out _ _ ?_ (fun hHeld => ?_)); (focus ((try dsimp only); (first | done | (first | with_reducible exact k0 | with_reducible exact k0b | with_reducible exact k4 | with_reducible exact k4a _ | with_reducible exact k4b | with_reducible exact Kset.out)))); clear hK K; (try simp only [Act.put, List.setIfInBounds_toArray, List.set_cons_zero, List.set_cons_succ]))
                ((refine Go.Proofs.YtljlpkeddbfpaaaGreatDoor.tree_step (fun K hK => ?_)); (first | (first | (go_at_call 24; refine HSA.out.mono ?_; rintro e w8 ⟨⟨a, m, rfl⟩, hB8⟩; have S8 := HSk.out.drew.below hB8; have k4 := HC.out _ S8; have k4a := (fun o => HC.out _ (S8.old o)); have S8 := Lib.hid S8; have hB8 := Lib.hid hB8) | (go_at_call 24; refine HSB.out.mono ?_; rintro e w8 ⟨⟨a, m, rfl⟩, hB8⟩; have S8b := HBz.out.below hB8; have k4b := HC.out _ S8b.tail; obtain ⟨z0, z1, z2, z3, z4, z5, z6⟩ := in_cells S8b.hd; have f0b : ∀ i, w8.frozen? ⟨wr.heap.size, i, none⟩ = false := (fun i => free_at S8b.hd.get i); have S8c := ((((((S8b.put 0 (.int .i64 kd)).put 1 (.int .i64 rf)).put 2 (.int .i64 a)).put 3 (.int .i64 nd)).put 4 (.bool m.r)).put 5 (.bool m.w)).put 6 (.bool m.m); have Kset := Lib.hid (HC.out _ S8c.tail); have S8b := Lib.hid S8b; have hB8 := Lib.hid hB8; clear S8c)) | (go_simp; (first | (go_at_call 24; refine HSA.out.mono ?_; rintro e w8 ⟨⟨a, m, rfl⟩, hB8⟩; have S8 := HSk.out.drew.below hB8; have k4 := HC.out _ S8; have k4a := (fun o => HC.out _ (S8.old o)); have S8 := Lib.hid S8; have hB8 := Lib.hid hB8) | (go_at_call 24; refine HSB.out.mono ?_; rintro e w8 ⟨⟨a, m, rfl⟩, hB8⟩; have S8b := HBz.out.below hB8; have k4b := HC.out _ S8b.tail; obtain ⟨z0, z1, z2, z3, z4, z5, z6⟩ := in_cells S8b.hd; have f0b : ∀ i, w8.frozen? ⟨wr.heap.size, i, none⟩ = false := (fun i => free_at S8b.hd.get i); have S8c := ((((((S8b.put 0 (.int .i64 kd)).put 1 (.int .i64 rf)).put 2 (.int .i64 a)).put 3 (.int .i64 nd)).put 4 (.bool m.r)).put 5 (.bool m.w)).put 6 (.bool m.m); have Kset := Lib.hid (HC.out _ S8c.tail); have S8b := Lib.hid S8b; have hB8 := Lib.hid hB8; clear S8c)); (try go_wp2_with fail)) | go_simp); (refine hK.out _ _ ?_ (fun hHeld => ?_)); (focus ((try dsimp only); (first | done | (first | with_reducible exact k0 | with_reducible exact k0b | with_reducible exact k4 | with_reducible exact k4a _ | with_reducible exact k4b | with_reducible exact Kset.out)))); clear hK K; (try simp only [Act.put, List.setIfInBounds_toArray, List.set_cons_zero, List.set_cons_succ]))
                ((first | ((refine Go.Proofs.YtljlpkeddbfpaaaGreatDoor.tree_yes (v := ?_) (by rfl) ?_ ?_); rotate_left; (focus (intro w hSw; (try dsimp only at hSw); go_simp; try (with_reducible rfl)))) | (refine Go.Proofs.YtljlpkeddbfpaaaGreatDoor.tree_no (by rfl) ?_)); (try simp only [Act.put, List.setIfInBounds_toArray, List.set_cons_zero, List.set_cons_succ]))
                refine Go.Proofs.YtljlpkeddbfpaaaGreatDoor.tree_done ?_
              rotate_left 1
              focus
                ((first | (first | (go_at_call 24; refine HSA.out.mono ?_; rintro e w8 ⟨⟨a, m, rfl⟩, hB8⟩; have S8 := HSk.out.drew.below hB8; have k4 := HC.out _ S8; have k4a := (fun o => HC.out _ (S8.old o)); have S8 := Lib.hid S8; have hB8 := Lib.hid hB8) | (go_at_call 24; refine HSB.out.mono ?_; rintro e w8 ⟨⟨a, m, rfl⟩, hB8⟩; have S8b := HBz.out.below hB8; have k4b := HC.out _ S8b.tail; obtain ⟨z0, z1, z2, z3, z4, z5, z6⟩ := in_cells S8b.hd; have f0b : ∀ i, w8.frozen? ⟨wr.heap.size, i, none⟩ = false := (fun i => free_at S8b.hd.get i); have S8c := ((((((S8b.put 0 (.int .i64 kd)).put 1 (.int .i64 rf)).put 2 (.int .i64 a)).put 3 (.int .i64 nd)).put 4 (.bool m.r)).put 5 (.bool m.w)).put 6 (.bool m.m); have Kset := Lib.hid (HC.out _ S8c.tail); have S8b := Lib.hid S8b; have hB8 := Lib.hid hB8; clear S8c)) | (go_simp; (first | (go_at_call 24; refine HSA.out.mono ?_; rintro e w8 ⟨⟨a, m, rfl⟩, hB8⟩; have S8 := HSk.out.drew.below hB8; have k4 := HC.out _ S8; have k4a := (fun o => HC.out _ (S8.old o)); have S8 := Lib.hid S8; have hB8 := Lib.hid hB8) | (go_at_call 24; refine HSB.out.mono ?_; rintro e w8 ⟨⟨a, m, rfl⟩, hB8⟩; have S8b := HBz.out.below hB8; have k4b := HC.out _ S8b.tail; obtain ⟨z0, z1, z2, z3, z4, z5, z6⟩ := in_cells S8b.hd; have f0b : ∀ i, w8.frozen? ⟨wr.heap.size, i, none⟩ = false := (fun i => free_at S8b.hd.get i); have S8c := ((((((S8b.put 0 (.int .i64 kd)).put 1 (.int .i64 rf)).put 2 (.int .i64 a)).put 3 (.int .i64 nd)).put 4 (.bool m.r)).put 5 (.bool m.w)).put 6 (.bool m.m); have Kset := Lib.hid (HC.out _ S8c.tail); have S8b := Lib.hid S8b; have hB8 := Lib.hid hB8; clear S8c)); (try go_wp2_with fail)) | go_simp); (refine hK.out _ _ ?_ (fun hHeld => ?_)); (focus ((try dsimp only); (first | done | (first | with_reducible exact k0 | with_reducible exact k0b | with_reducible exact k4 | with_reducible exact k4a _ | with_reducible exact k4b | with_reducible exact Kset.out)))); clear hK K; (try simp only [Act.put, List.setIfInBounds_toArray, List.set_cons_zero, List.set_cons_succ]))
                ((refine Go.Proofs.YtljlpkeddbfpaaaGreatDoor.tree_step (fun K hK => ?_)); (first | (first | (go_at_call 24; refine HSA.out.mono ?_; rintro e w8 ⟨⟨a, m, rfl⟩, hB8⟩; have S8 := HSk.out.drew.below hB8; have k4 := HC.out _ S8; have k4a := (fun o => HC.out _ (S8.old o)); have S8 := Lib.hid S8; have hB8 := Lib.hid hB8) | (go_at_call 24; refine HSB.out.mono ?_; rintro e w8 ⟨⟨a, m, rfl⟩, hB8⟩; have S8b := HBz.out.below hB8; have k4b := HC.out _ S8b.tail; obtain ⟨z0, z1, z2, z3, z4, z5, z6⟩ := in_cells S8b.hd; have f0b : ∀ i, w8.frozen? ⟨wr.heap.size, i, none⟩ = false := (fun i => free_at S8b.hd.get i); have S8c := ((((((S8b.put 0 (.int .i64 kd)).put 1 (.int .i64 rf)).put 2 (.int .i64 a)).put 3 (.int .i64 nd)).put 4 (.bool m.r)).put 5 (.bool m.w)).put 6 (.bool m.m); have Kset := Lib.hid (HC.out _ S8c.tail); have S8b := Lib.hid S8b; have hB8 := Lib.hid hB8; clear S8c)) | (go_simp; (first | (go_at_call 24; refine HSA.out.mono ?_; rintro e w8 ⟨⟨a, m, rfl⟩, hB8⟩; have S8 := HSk.out.drew.below hB8; have k4 := HC.out _ S8; have k4a := (fun o => HC.out _ (S8.old o)); have S8 := Lib.hid S8; have hB8 := Lib.hid hB8) | (go_at_call 24; refine HSB.out.mono ?_; rintro e w8 ⟨⟨a, m, rfl⟩, hB8⟩; have S8b := HBz.out.below hB8; have k4b := HC.out _ S8b.tail; obtain ⟨z0, z1, z2, z3, z4, z5, z6⟩ := in_cells S8b.hd; have f0b : ∀ i, w8.frozen? ⟨wr.heap.size, i, none⟩ = false := (fun i => free_at S8b.hd.get i); have S8c := ((((((S8b.put 0 (.int .i64 kd)).put 1 (.int .i64 rf)).put 2 (.int .i64 a)).put 3 (.int .i64 nd)).put 4 (.bool m.r)).put 5 (.bool m.w)).put 6 (.bool m.m); have Kset := Lib.hid (HC.out _ S8c.tail); have S8b := Lib.hid S8b; have hB8 := Lib.hid hB8; clear S8c)); (try go_wp2_with fail)) | go_simp); (refine hK.out _ _ ?_ (fun hHeld => ?_)); (focus ((try dsimp only); (first | done | (first | with_reducible exact k0 | with_reducible exact k0b | with_reducible exact k4 | with_reducible exact k4a _ | with_reducible exact k4b | with_reducible exact Kset.out)))); clear hK K; (try simp only [Act.put, List.setIfInBounds_toArray, List.set_cons_zero, List.set_cons_succ]))
                ((first | ((refine Go.Proofs.YtljlpkeddbfpaaaGreatDoor.tree_yes (v := ?_) (by rfl) ?_ ?_); rotate_left; (focus (intro w hSw; (try dsimp only at hSw); go_simp; try (with_reducible rfl)))) | (refine Go.Proofs.YtljlpkeddbfpaaaGreatDoor.tree_no (by rfl) ?_)); (try simp only [Act.put, List.setIfInBounds_toArray, List.set_cons_zero, List.set_cons_succ]))
                ((first | ((refine Go.Proofs.YtljlpkeddbfpaaaGreatDoor.tree_yes (v := ?_) (by rfl) ?_ ?_); rotate_left; (focus (intro w hSw; (try dsimp only at hSw); go_simp; try (with_reducible rfl)))) | (refine Go.Proofs.YtljlpkeddbfpaaaGreatDoor.tree_no (by rfl) ?_)); (try simp only [Act.put, List.setIfInBounds_toArray, List.set_cons_zero, List.set_cons_succ]))
                ((first | ((refine Go.Proofs.YtljlpkeddbfpaaaGreatDoor.tree_yes (v := ?_) (by rfl) ?_ ?_); rotate_left; (focus (intro w hSw; (try dsimp only at hSw); go_simp; try (with_reducible rfl)))) | (refine Go.Proofs.YtljlpkeddbfpaaaGreatDoor.tree_no (by rfl) ?_)); (try simp only [Act.put, List.setIfInBounds_toArray, List.set_cons_zero, List.set_cons_succ]))
                ((refine Go.Proofs.YtljlpkeddbfpaaaGreatDoor.tree_step (fun K hK => ?_)); (first | (first | (go_at_call 24; refine HSA.out.mono ?_; rintro e w8 ⟨⟨a, m, rfl⟩, hB8⟩; have S8 := HSk.out.drew.below hB8; have k4 := HC.out _ S8; have k4a := (fun o => HC.out _ (S8.old o)); have S8 := Lib.hid S8; have hB8 := Lib.hid hB8) | (go_at_call 24; refine HSB.out.mono ?_; rintro e w8 ⟨⟨a, m, rfl⟩, hB8⟩; have S8b := HBz.out.below hB8; have k4b := HC.out _ S8b.tail; obtain ⟨z0, z1, z2, z3, z4, z5, z6⟩ := in_cells S8b.hd; have f0b : ∀ i, w8.frozen? ⟨wr.heap.size, i, none⟩ = false := (fun i => free_at S8b.hd.get i); have S8c := ((((((S8b.put 0 (.int .i64 kd)).put 1 (.int .i64 rf)).put 2 (.int .i64 a)).put 3 (.int .i64 nd)).put 4 (.bool m.r)).put 5 (.bool m.w)).put 6 (.bool m.m); have Kset := Lib.hid (HC.out _ S8c.tail); have S8b := Lib.hid S8b; have hB8 := Lib.hid hB8; clear S8c)) | (go_simp; (first | (go_at_call 24; refine HSA.out.mono ?_; rintro e w8 ⟨⟨a, m, rfl⟩, hB8⟩; have S8 := HSk.out.drew.below hB8; have k4 := HC.out _ S8; have k4a := (fun o => HC.out _ (S8.old o)); have S8 := Lib.hid S8; have hB8 := Lib.hid hB8) | (go_at_call 24; refine HSB.out.mono ?_; rintro e w8 ⟨⟨a, m, rfl⟩, hB8⟩; have S8b := HBz.out.below hB8; have k4b := HC.out _ S8b.tail; obtain ⟨z0, z1, z2, z3, z4, z5, z6⟩ := in_cells S8b.hd; have f0b : ∀ i, w8.frozen? ⟨wr.heap.size, i, none⟩ = false := (fun i => free_at S8b.hd.get i); have S8c := ((((((S8b.put 0 (.int .i64 kd)).put 1 (.int .i64 rf)).put 2 (.int .i64 a)).put 3 (.int .i64 nd)).put 4 (.bool m.r)).put 5 (.bool m.w)).put 6 (.bool m.m); have Kset := Lib.hid (HC.out _ S8c.tail); have S8b := Lib.hid S8b; have hB8 := Lib.hid hB8; clear S8c)); (try go_wp2_with fail)) | go_simp); (refine hK.out _ _ ?_ (fun hHeld => ?_)); (focus ((try dsimp only); (first | done | (first | with_reducible exact k0 | with_reducible exact k0b | with_reducible exact k4 | with_reducible exact k4a _ | with_reducible exact k4b | with_reducible exact Kset.out)))); clear hK K; (try simp only [Act.put, List.setIfInBounds_toArray, List.set_cons_zero, List.set_cons_succ]))
                ((first | ((refine Go.Proofs.YtljlpkeddbfpaaaGreatDoor.tree_yes (v := ?_) (by rfl) ?_ ?_); rotate_left; (focus (intro w hSw; (try dsimp only at hSw); go_simp; try (with_reducible rfl)))) | (refine Go.Proofs.YtljlpkeddbfpaaaGreatDoor.tree_no (by rfl) ?_)); (try simp only [Act.put, List.setIfInBounds_toArray, List.set_cons_zero, List.set_cons_succ]))
                refine Go.Proofs.YtljlpkeddbfpaaaGreatDoor.tree_done ?_
              all_goals
                first
                | (have R9 := Ran.new (Below.trans (Ran.drewN HRk.out 1) (below_ran hB8.out)) (inO kd rf a nd m); have S9 := S8.out.alloc (inO kd rf a nd m); obtain ⟨w6, hw6⟩ : ∃ w6, w6 = w8.alloc (inO kd rf a nd m) := ⟨_, rfl⟩; obtain ⟨ib, hib⟩ : ∃ ib, ib = w8.heap.size := ⟨_, rfl⟩; rw [← hw6] at R9 S9 ⊢; rw [← hib] at S9 ⊢)
                | (have R9 := Ran.set (Ran.set (Ran.set (Ran.set (Ran.set (Ran.set (Ran.set (Below.trans (Ran.drewN (Ran.new HRk.out (inO 0 0 0 0 ⟨false, false, false⟩)) 1) (below_ran hB8.out)) ⟨wr.heap.size, 0, none⟩ (.int .i64 kd)) ⟨wr.heap.size, 1, none⟩ (.int .i64 rf)) ⟨wr.heap.size, 2, none⟩ (.int .i64 a)) ⟨wr.heap.size, 3, none⟩ (.int .i64 nd)) ⟨wr.heap.size, 4, none⟩ (.bool m.r)) ⟨wr.heap.size, 5, none⟩ (.bool m.w)) ⟨wr.heap.size, 6, none⟩ (.bool m.m); have S9 := ((((((S8b.out.put 0 (.int .i64 kd)).put 1 (.int .i64 rf)).put 2 (.int .i64 a)).put 3 (.int .i64 nd)).put 4 (.bool m.r)).put 5 (.bool m.w)).put 6 (.bool m.m); obtain ⟨w6, hw6⟩ : ∃ w6, w6 = ((((((w8.setCell ⟨wr.heap.size, 0, none⟩ (.int .i64 kd)).setCell ⟨wr.heap.size, 1, none⟩ (.int .i64 rf)).setCell ⟨wr.heap.size, 2, none⟩ (.int .i64 a)).setCell ⟨wr.heap.size, 3, none⟩ (.int .i64 nd)).setCell ⟨wr.heap.size, 4, none⟩ (.bool m.r)).setCell ⟨wr.heap.size, 5, none⟩ (.bool m.w)).setCell ⟨wr.heap.size, 6, none⟩ (.bool m.m) := ⟨_, rfl⟩; obtain ⟨ib, hib⟩ : ∃ ib, ib = wr.heap.size := ⟨_, rfl⟩; rw [← hw6] at R9 S9 ⊢; rw [← hib] at S9 ⊢)
              all_goals
                have S9 : WS c wb s (pts ib (inO kd rf a nd m) * (Q2 (some ⟨pb, po, none⟩) cp ks W)) w6 := S9
                have S9 := Lib.hid S9
                have R9 := Lib.hid R9
                clear hw6 hib
                go_wp2_with fail
                go_meet
                case rel => exact ⟨ib, a, m, rfl, rfl, S9.out, R9.out⟩
            case rest =>
              obtain ⟨ib, a, m, rfl, rfl, S9, R9⟩ := hcut
              have S9 := Lib.hid S9
              have R9 := Lib.hid R9
              clear HSA HSB HBz HC k0 k0b HSk HRk
              obtain ⟨mr, mw, mm⟩ := m
              obtain ⟨hy, hkd, hnd, hrf⟩ := HY.out
              obtain ⟨rq, hrq⟩ : ∃ rq : Nat, rf = (rq : Int) := ⟨rf.toNat, by omega⟩
              subst hrq
              have hr1 : 1 ≤ rq := by omega
              have hr101 : rq ≤ 99 := by omega
              have HY2 := Lib.hid (And.intro hy hrf)
              have HD0 : Hid (0 < rq → ∃ y, findA s.L id = some y ∧ y.refs = (rq : Int) - ((0 : Nat) : Int)) := Lib.hid (fun _ => ⟨y, hy, by omega⟩)
              clear hy hkd hnd hrf hrefs HY
              go_wp2_with fail
              go_loopg [20] rq (fun (g : Nat) (v20 : Value) (wr : World) => Rel5 c wb ib W i (some ⟨pb, po, none⟩) cp ks k id rq (inO kd (rq : Int) a nd ⟨mr, mw, mm⟩) g v20 wr)
              case atStart => exact ⟨0, s, rfl, by omega, HI5.out, HD0.out, fun h => by omega, HMM.out.2, S9.out, R9.out⟩
              case round =>
                clear S9 R9 HI5 HD0 HY2
                obtain ⟨q, s5, rfl, hgq, hI6, hq1, hq2, hoth, HSq, HRq⟩ := hrel
                obtain ⟨gy, hgy⟩ : ∃ gy, gy = gk := ⟨_, rfl⟩
                obtain ⟨q0, q1, qr⟩ := in_cells HSq.hd
                by_cases hqr : q < rq
                · have hqrI : (q : Int) < (rq : Int) := by omega
                  have hq100 : (q : Int) < 100 := by omega
                  have hq0 : (0 : Int) ≤ (q : Int) := by omega
                  obtain ⟨y5, hy5, hyr⟩ := hq1 hqr
                  have HU := Lib.hid (unref_st (c := c) hiM hI6 hidI hy5 HSq.drew)
                  have t1 := HSq.drew.wo.2.2
                  have t2 : wr.drew.cell? ⟨pb, po + k, none⟩ = some (.int .i64 id) := by rw [HID.out]; exact arr_at hlk HSq.drew.tail.rest
                  have HQ := Lib.hid (And.intro hyr (And.intro hoth HRq))
                  have HCa := Lib.hid (fun (W' : World) (u : Sg) (h : WS c wb u (pts ib (inO kd (rq : Int) a nd ⟨mr, mw, mm⟩) * Q2 (some ⟨pb, po, none⟩) cp ks W) W') => (And.intro h.wo.2.2 (by rw [HID.out]; exact arr_at hlk h.tail.rest) : W'.cell? ⟨wb, 2, none⟩ = some (pp c.tb) ∧ W'.cell? ⟨pb, po + k, none⟩ = some (.int .i64 id)))
                  clear hI6 hq1 hq2 hoth HSq HRq hy5 hyr qr
                  go_upto_region 43 with fail
                  refine Go.Proofs.YtljlpkeddbfpaaaGreatDoor.region_plan (S := (fun w' => w'.cell? ⟨wb, 2, none⟩ = some (pp c.tb) ∧ w'.cell? ⟨pb, po + k, none⟩ = some (.int .i64 id))) [(0, true), (1, true), (2, true), (3, true), (4, true), (5, true), (6, false), (7, true)] (by kernel_rfl) (by kernel_rfl) (by kernel_rfl) ?_ ?_
                  · ((try dsimp only); (first | done | (first | exact ⟨t1, t2⟩ | exact K5)))
                  simp only [Go.Proofs.YtljlpkeddbfpaaaGreatDoor.planOps, List.map_cons, List.map_nil, List.getElem?_toArray, List.getElem?_cons_zero, List.getElem?_cons_succ]
                  repeat (first
                    | ((refine Go.Proofs.YtljlpkeddbfpaaaGreatDoor.plan_yes (v := ?_) (by rfl) ?_ ?_); rotate_left; (focus (intro w hSw; (try dsimp only at hSw); go_simp; try (with_reducible rfl))); (try simp only [Act.put, List.setIfInBounds_toArray, List.set_cons_zero, List.set_cons_succ]))
                    | ((refine Go.Proofs.YtljlpkeddbfpaaaGreatDoor.plan_no (by rfl) ?_); (try simp only [Act.put, List.setIfInBounds_toArray, List.set_cons_zero, List.set_cons_succ]))
                    | ((refine Go.Proofs.YtljlpkeddbfpaaaGreatDoor.plan_step (fun K hK => ?_)); (first | ((go_at_call 27; refine HU.out.mono ?_; rintro e w5 ⟨⟨rfl, s6, hI7, f1, f2, f3, S5⟩, R5⟩; have K5 := HCa.out w5 s6 S5)) | (go_simp; ((go_at_call 27; refine HU.out.mono ?_; rintro e w5 ⟨⟨rfl, s6, hI7, f1, f2, f3, S5⟩, R5⟩; have K5 := HCa.out w5 s6 S5)); (try go_wp2_with fail)) | go_simp); (refine hK.out _ _ ?_ (fun hHeld => ?_)); (focus ((try dsimp only); (first | done | (first | exact ⟨t1, t2⟩ | exact K5)))); clear hK K; (try simp only [Act.put, List.setIfInBounds_toArray, List.set_cons_zero, List.set_cons_succ])))
                  refine Go.Proofs.YtljlpkeddbfpaaaGreatDoor.plan_done ?_
                  have HZ : Hid (Inv i s6 ∧ (q + 1 < rq → ∃ y, findA s6.L id = some y ∧ y.refs = (rq : Int) - ((q + 1 : Nat) : Int)) ∧ (q + 1 = rq → findA s6.L id = none) ∧ (∀ j, j ≠ id → ((findA s6.L j).isSome = true ↔ j ∈ ks.drop (k + 1))) ∧
                      WS c wb s6 (pts ib (inO kd (rq : Int) a nd ⟨mr, mw, mm⟩) * Q2 (some ⟨pb, po, none⟩) cp ks W) w5 ∧ Ran W w5) := Lib.hid ⟨hI7, fun h => by
                      obtain ⟨y', h1, h2⟩ := f1 (by have := HQ.out.1; omega)
                      exact ⟨y', h1, by have := HQ.out.1; omega⟩, fun h => f2 (by have := HQ.out.1; omega), fun j hj => by rw [f3 j hj]; exact HQ.out.2.1 j hj, S5, Below.trans (Ran.drewN HQ.out.2.2 1) R5⟩
                  clear hI7 f1 f2 f3 S5 R5 K5 HU HQ HCa t1 t2 q0 q1
                  go_wp2_with fail
                  go_roundg (gy - 1)
                  case rel => exact ⟨q + 1, s6, by simp, by omega, HZ.out.1, HZ.out.2.1, HZ.out.2.2.1, HZ.out.2.2.2.1, HZ.out.2.2.2.2.1, HZ.out.2.2.2.2.2⟩
                  case measure => omega
                · have hqe : q = rq := by omega
                  have hqeI : ¬ (q : Int) < (rq : Int) := by omega
                  have HZ : Hid (Inv i s5 ∧ (∀ j, (findA s5.L j).isSome = true ↔ j ∈ ks.drop (k + 1)) ∧ WS c wb s5 (Q2 (some ⟨pb, po, none⟩) cp ks W) wr ∧ Ran W wr) := Lib.hid ⟨hI6, fun j => by
                    by_cases hj : j = id
                    · rw [hj, hq2 hqe]
                      exact ⟨fun h => (by cases h), fun h => absurd h HMM.out.1⟩
                    · exact hoth j hj, HSq.tail, HRq⟩
                  clear hI6 hq1 hq2 hoth HSq HRq hqe qr
                  go_wp2_with fail
                  go_roundg (gz - 1)
                  case rel => exact ⟨k + 1, s5, by simp, by omega, HZ.out.1, HZ.out.2.1, HZ.out.2.2.1, HZ.out.2.2.2⟩
                  case measure => omega
          · have hge2 : (ks.length : Int) ≤ (k : Int) := by omega
            have hnone : ∀ j, findA s.L j = none := fun j => by
              have hd : ks.drop k = [] := List.drop_eq_nil_of_le (by omega)
              cases hf : findA s.L j with
              | none => rfl
              | some z => have := (hmem j).1 (by rw [hf]; rfl); rw [hd] at this; cases this
            obtain ⟨hL0, hP0, hh0⟩ := hIs.empty hnone
            have HI6 := Lib.hid hIs
            have HL0 := Lib.hid hL0
            have HP0 := Lib.hid hP0
            have HH0 := Lib.hid hh0
            have HSz : Hid (WS c wb s (keep W) wr) := Lib.hid (WS.tail HSk)
            have HRk := Lib.hid HRk
            clear hnone hL0 hP0 hh0 hmem hIs HSk
            go_wp2_with fail
            go_loopg [21, 22, 23] 8 (fun (g : Nat) (v21 v22 v23 : Value) (wr : World) => Rel3 c wb W s (keep W) g v21 wr)
            case atStart => exact ⟨1, rfl, Nat.le_refl _, rfl, HSz.out, HRk.out⟩
            case round =>
              clear HSz HRk
              obtain ⟨n, rfl, hn1, hn9, HSn, HRn⟩ := hrel
              by_cases hn8 : n ≤ 8
              · have hn8I : (n : Int) ≤ 8 := by omega
                have hn1I : (1 : Int) ≤ (n : Int) := by omega
                have c0 := HSn.wo.1
                have HFS := fstat_st (c := c) (n := (n : Int)) HI6.out (by unfold I64; omega) HSn
                rw [HH0.out] at HFS
                have HFS := Lib.hid HFS
                have HSn := Lib.hid HSn
                have HRn := Lib.hid HRn
                go_wp2_with fail
                refine HFS.out.mono ?_
                rintro e w8 ⟨⟨fk, fz, fm, fe, rfl⟩, hB8⟩
                have S8 := (HSn.out.below hB8).alloc (infoO fk fz fm 0)
                have R8 := Lib.hid (Ran.new (Below.trans HRn.out (below_ran hB8)) (infoO fk fz fm 0))
                obtain ⟨ib, hib⟩ : ∃ ib, ib = w8.heap.size := ⟨_, rfl⟩
                obtain ⟨w9, hw9⟩ : ∃ w9, w9 = w8.alloc (infoO fk fz fm 0) := ⟨_, rfl⟩
                rw [← hib, ← hw9] at S8
                rw [← hw9] at R8
                have q3 := (info_cells S8.hd).2.2.2
                have S8 := Lib.hid S8.tail
                clear HFS HSn HRn c0 hB8
                go_upto_region 49 with fail
                rw [← hib, ← hw9]
                clear hib hw9
                go_wp2_with fail
                go_roundg (gk - 1)
                case rel => exact ⟨n + 1, by simp, by omega, by omega, S8.out, R8.out⟩
                case measure => omega
              · have hn9I : (n : Int) = 9 := by omega
                have hn8I : (8 : Int) < (n : Int) := by omega
                obtain ⟨-, c1, c2⟩ := HSn.wo
                have HAl := Lib.hid (all_st (c := c) hiM HI6.out HSn)
                have HRn := Lib.hid HRn
                clear HSn
                go_wp2_with fail
                refine HAl.out.mono ?_
                rintro e w7 ⟨⟨p2, cp2, ks2, rfl, hks2, S7⟩, hB7⟩
                have hks0 : ks2 = [] := by
                  have h1 := HI6.out.keys_len hks2
                  rw [HL0.out] at h1
                  exact List.eq_nil_of_length_eq_zero h1
                have S7 : WS c wb s (arr 3 1 p2 ks2.length cp2 (ks2.map iv) * keep W) w7 := S7.perm (show _ = SgHp c s * (pts wb (wdO c.fb c.bp c.tb) * (arr 3 1 p2 ks2.length cp2 (ks2.map iv) * keep W)) by ac_rfl)
                have R7 := Lib.hid (Below.trans HRn.out (below_ran hB7))
                have S7 := S7.tail
                have hkz : ks2.length = 0 := by rw [hks0]; rfl
                rw [hkz]
                clear c1 c2 hks2 hks0 hkz HAl HRn hB7
                obtain ⟨-, c1, c2⟩ := S7.wo
                have HBu := buffers_st (c := c) S7
                have HHe := held_st (c := c) S7
                rw [HP0.out] at HBu HHe
                have HBu := Lib.hid HBu
                have HHe := Lib.hid HHe
                have S7 := Lib.hid S7
                have hAw := Lib.hid (HA.out w7 S7.out.rest)
                go_wp2_with fail
                refine HBu.out.mono ?_
                rintro e w8 ⟨rfl, rfl⟩
                go_wp2_with fail
                refine HHe.out.mono ?_
                rintro e w8 ⟨rfl, rfl⟩
                go_wp2_with fail
                refine hAw.out.mono ?_
                rintro e w9 ⟨⟨rfl, h2⟩, h3⟩
                have h2 := Lib.hid h2
                have h3 := Lib.hid h3
                clear hAw HBu HHe
                go_wp2_with fail
                go_ret
                exact ⟨rfl, fin_true R7.out h2.out h3.out⟩

theorem own : ownKnob Tryz.prog.godebug = none := by kernel_rfl
theorem laidOut : laidOutB Tryz.prog = true := by kernel_rfl

set_option maxRecDepth 100000 in
theorem lifted (os : Os) (started : os.Started) (H : Type) (enc : TypeId × Value → H) :
    ReturnsInHanded {} Tryz.checked os 5 .any (fun w args => (Rows.handlesHeldSpec.pre enc Tryz.prog Tryz.f5 Rows.handlesHeldRow.domain false w args ∧ laidMetH Tryz.prog Rows.handlesHeldRow.laid w) ∧ sizedMet enc Tryz.prog Tryz.f5 (OpenSpec.ofChange Rows.handlesHeldSpec) false w args) (Rows.handlesHeldSpec.post enc Tryz.prog Tryz.f5 false true false false) := by
  refine returnsInHanded_of_change_and (C := Tryz.checked) (X := fun w _ => laidMetH Tryz.prog Rows.handlesHeldRow.laid w) (fun _ _ _ hh h => h.of_heap hh) own started (by kernel_rfl) Tryz.func5
    (ChangeSpec.witness_shaped (enc := enc) (C := Tryz.checked) (os := os) (X := fun w _ => laidMetH Tryz.prog Rows.handlesHeldRow.laid w) false (World.laidAll Tryz.prog os Rows.handlesHeldRow.laid) #[.slice none 0 0] 8 (World.laidAll_os _ _ _)
      (World.shaped_of_ZipB (by kernel_rfl) (by kernel_rfl)) (by kernel_rfl) (by kernel_rfl) (by kernel_rfl)
      (by rw [MakeChecks.laidMetH_plain _ _ _ (by kernel_rfl)]; exact laidMet_laidAll _ (by kernel_rfl) (by kernel_rfl))) ?_
  intro W base args ds gs before hval0 hW hcnd _ hL _
  have hval : ∀ (j : Nat) t v, Tryz.f5.params[j]? = some t → args[j]? = some v → Value.okWide Tryz.prog W .any base t v := hval0
  have hW' := hW
  obtain ⟨p, q, hA0, hV, rfl, hfz, hnd⟩ := hW
  have hA : DataW.TrodAll enc Tryz.prog W 0 (fun _ => true) true Tryz.f5.params.toList args.toList ds p := hA0
  rw [Tryz.params5] at hA hval
  obtain ⟨v0, vs0, d0, ds0, p0, q0, hargs, rfl, rfl, h0, r0⟩ := trodAll_cons hA
  obtain ⟨rfl, rfl, rfl⟩ := trodAll_nil r0
  obtain rfl : args = #[v0] := by cases args; simp_all
  obtain ⟨rfl, rfl⟩ := trodVars_none hV
  have k0 := h0
  have lt0 : ∀ x ∈ p0, x.block < W.heap.size := by obtain ⟨m, hm⟩ := k0; exact DataW.trod_lt m _ _ _ hm
  obtain ⟨ao0, l0, cap0, rfl, w0⟩ := ops_open (hval 0 52 v0 rfl rfl) h0
  clear hA0 hval0
  refine (walk ao0 cap0 l0 W w0).mono fun e W' ⟨he, bel⟩ => ?_
  subst he
  exact ⟨_, rfl, _, _, _, [], _, [], hW', trodAll_mk1 (shut_bool Tryz.underlying4 _), (trodAll_cons_mk (Below.trod laidOut (by kernel_rfl) (of_decide_eq_true (by kernel_rfl)) k0 bel lt0) trodAll_mk0), rfl, bel.frame _, fun h => by cases h⟩

theorem over : Rows.handlesHeldRow.holds Tryz.pinned (OpenSpec.ofChange Rows.handlesHeldSpec) :=
  OpenClaim.holds_of_wide 5 Tryz.f5 rfl rfl rfl rfl rfl rfl rfl ⟨rfl, rfl, rfl, rfl, rfl⟩ rfl rfl rfl rfl rfl (by kernel_rfl) Tryz.func5 (by kernel_rfl)
    (of_decide_eq_true (by kernel_rfl)) (by unfold Func.isWrapper; first | (rw [if_pos (by decide +kernel)]; kernel_rfl) | (rw [if_neg (by decide +kernel)]; exact ⟨rfl, rfl⟩))
    (fun os started H enc _ => lifted os started H enc)

theorem proved : Rows.HandlesHeldCardSaid :=
  Claim7.holds_tied_plain_at .later [] [.data, .pinned] true (true, "66290d1066095200cf14bc365beb6c9a74d9cfc0189b6a14515d91b2027a118d") false over (fun _ h => by cases h) (by kernel_rfl) (fun _ h => by cases h) handlesHeld_row_tie rfl ⟨rfl, rfl⟩ (by kernel_rfl) rfl
    (fun f fn hf hfn => by
      obtain rfl : f = 5 := Option.some.inj ((show Tryz.prog.funcNamed "whelk/whelklaw07.HandlesHeld" = some 5 by kernel_rfl).symm.trans hf) |>.symm
      obtain rfl : fn = Tryz.f5 := (Option.some.inj (Tryz.func5.symm.trans hfn)).symm
      exact ⟨by kernel_rfl, fun j t ht => by
        rw [Tryz.params5] at ht
        have hm : t ∈ [52] := by simpa using Array.mem_of_getElem? ht
        have hall : ([52].all fun u => !Tryz.prog.wantsStandIn u) = true := by kernel_rfl
        exact (show Tryz.prog.wantsStandIn t = false by simpa using List.all_eq_true.1 hall t hm)⟩)
    (by kernel_rfl)
#print axioms proved
end Go.Proofs.YtljlpkeddbfpaaaGreatDoor.handlesHeld
