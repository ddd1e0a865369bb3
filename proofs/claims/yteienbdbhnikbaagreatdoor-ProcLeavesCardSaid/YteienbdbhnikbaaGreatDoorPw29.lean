/- HandlesPlays, part 29 of 31: the texts PrLv, joined by a program. -/
import Derived.Test.YteienbdbhnikbaaGreatDoorPw28
import Derived.Test.YteienbdbhnikbaaGreatDoorTie
import Derived.Test.YteienbdbhnikbaaGreatDoorCards
import Derived.SevenTiedAt
import Derived.Stop.Joined
namespace Go.Proofs.YteienbdbhnikbaaGreatDoor.procLeaves
open Go.ChangeShapes Go.WideShapes Go.ChangeAt Go.RowKit Go.Maps Go.Proofs.YteienbdbhnikbaaGreatDoor Go.Proofs.YteienbdbhnikbaaGreatDoor.Hp Go.Proofs.YteienbdbhnikbaaGreatDoor.Hd Go.Proofs.YteienbdbhnikbaaGreatDoor.Pr Go.ChangeMaps
set_option linter.unusedVariables false
attribute [local go_sem] Oper.semAt_some

abbrev nfO (k z m h : Int) : Obj := .cells #[.int .i64 k, .int .i64 z, .int .i64 m, .int .i64 h] 56 (0, 0)
theorem nf_holds {w : World} {b : Nat} {k z m h : Int} {S : Hp} (hs : Sat w (pts b (nfO k z m h) * S)) : w.cell? ⟨b, 3, none⟩ = some (.int .i64 h) := by rw [cell_at hs.get]; rfl
def LvH (c : Pls) (lb pb wb : Nat) (A X : Hp) (W : World) (g : Nat) (vi : Value) (wr : World) : Prop :=
  ∃ (k : Nat), vi = .int .i64 (k : Int) ∧ k + g = 13 ∧ Sat wr (A * (pts wb (BX c lb pb) * X)) ∧ Ran W wr
/-- While marks are open. -/
def LvU (c : Pls) (pb lb : Nat) (wb : Nat) (X : Hp) (W : World) (g : Nat) (wr : World) : Prop :=
  ∃ (p : Pc) (nl : List Nt) (ms : List Nat), ms.length = g ∧ g ≤ 4 ∧ Gd c pb lb 1000 p nl ms ∧ Sat wr (PH c (200000 + 1000 * (4 - g)) b0 1000 p nl ms * (pts wb (BX c lb pb) * X)) ∧ Ran W wr
/-- The fds closed, one by one. -/
def LvC (c : Pls) (pb lb : Nat) (wb : Nat) (X : Hp) (W : World) (g : Nat) (vi : Value) (wr : World) : Prop :=
  ∃ (i : Nat) (p : Pc), vi = .int .i64 (i : Int) ∧ i + g = 16 ∧ Gd c pb lb 1000 p [] [] ∧ (∀ j, j < i → (p.sl j).has = 0) ∧ Sat wr (PH c (300000 + 3 * i) b0 1000 p [] [] * (pts wb (BX c lb pb) * X)) ∧ Ran W wr
set_option maxRecDepth 100000 in
set_option maxHeartbeats 4000000 in
theorem walk (ao : Option Addr) (cap : Nat) (l : List Opr) (W : World) (hl : OpsAt W ao l) (hg : Glob (keep W)) :
    Calls Tryz.prog 4 #[.slice ao l.length cap] W fun e w' => e = .returned (.bool true) ∧ Below W.heap.size W w' := by
  have HF := Lib.hid (few_calls l ao cap W hl)
  have HA := Lib.hid (fun w hw => awake_calls w (keep W) hg hw)
  have HL := Lib.hid hl
  have HG := Lib.hid hg
  clear hl hg
  go_enter Tryz.func4, Tryz.ntmps4
  go_wp2_with fail
  refine HF.out.mono ?_
  rintro e w1 ⟨⟨r, rfl, hr⟩, rfl⟩
  clear HF
  cases r with
  | false =>
    have hA := Lib.hid (HA.out W (Sat.start W))
    clear hr
    go_wp2_with fail
    refine hA.out.mono ?_
    rintro e w9 ⟨⟨rfl, h2⟩, h3⟩
    have h2 := Lib.hid h2
    have h3 := Lib.hid h3
    clear hA
    go_wp2_with fail
    go_ret
    exact ⟨rfl, fin_true (Below.refl 0 W) h2.out h3.out⟩
  | true =>
    have HFw := Lib.hid (hr rfl)
    clear hr
    have HB := Lib.hid (begun_gd 1000 (by omega) (by omega) W (keep W) HG.out (Sat.start W))
    go_wp2_with fail
    refine HB.out.mono ?_
    rintro e w1 ⟨⟨c, pb, lb, p0, rfl, hgd0, S0⟩, R0⟩
    clear HB
    have S1 := (S0.alloc (BX c lb pb)).perm (show _ = PH c 20 b0 1000 p0 [] [] * (pts w1.heap.size (BX c lb pb) * keep W) by ac_rfl)
    have R1 := Lib.hid (Ran.new R0 (BX c lb pb))
    obtain ⟨wb, hwb⟩ : ∃ b, b = w1.heap.size := ⟨_, rfl⟩
    obtain ⟨w2, hw2⟩ : ∃ w2, w2 = w1.alloc (BX c lb pb) := ⟨_, rfl⟩
    rw [← hwb, ← hw2] at S1
    rw [← hw2] at R1
    have S1 := Lib.hid S1
    have Hgd0 := Lib.hid hgd0
    clear S0 R0 hgd0
    go_upto_region 6 with fail
    rw [← hwb, ← hw2]
    clear hwb hw2
    go_wp2_with fail
    go_loopg [5] (l.length) (fun (g : Nat) (v5 : Value) (wr : World) => LpD c pb lb 1000 l.length 20 wb (keep W) W g v5 wr)
    case atStart => exact ⟨0, p0, [], [], rfl, by omega, Hgd0.out, S1.out, R1.out⟩
    case round =>
      clear S1 R1
      obtain ⟨i, p, nl, ms, rfl, hgk, hgd, HSi, HRi⟩ := hrel
      have h50 : l.length ≤ 50 := HFw.out.1
      by_cases hlt : i < l.length
      · have hltI : (i : Int) < l.length := by omega
        have hi0 : (0 : Int) ≤ (i : Int) := by omega
        have Hgd := Lib.hid hgd
        have HRi := Lib.hid HRi
        clear hgd
        obtain ⟨op, hope⟩ : ∃ op, op = l[i] := ⟨_, rfl⟩
        have hfo : FewO op := HFw.out.2 op (by rw [hope]; exact List.getElem_mem hlt)
        obtain ⟨okx, b, o, rfl, hbW, hop⟩ := HL.out i hlt
        rw [← hope] at okx hop
        have HopA := Lib.hid (fun (W' : World) (hk : ∀ k, k < W.heap.size → W'.heap[k]? = W.heap[k]?) => hop.keep (hk b hbW))
        have Sd := HSi.drew
        have HD := Lib.hid (does_lp Hgd.out op okx hfo (HG.out.more) (by omega) Sd)
        have HK : Hid (∀ (W' : World) (A : Hp), Sat W' (A * (pts wb (BX c lb pb) * keep W)) → W'.cell? ⟨wb, 0, none⟩ = some (Hd.pp c.fb) ∧ W'.cell? ⟨wb, 1, none⟩ = some (Hd.pp c.bp) ∧ W'.cell? ⟨wb, 2, none⟩ = some (Hd.pp c.tb) ∧ W'.cell? ⟨wb, 3, none⟩ = some (Hd.pp lb) ∧ W'.cell? ⟨wb, 4, none⟩ = some (Hd.pp pb) ∧ W'.cell? ⟨b, o + i * 7, none⟩ = some (.int .i64 op.ask) ∧ W'.cell? ⟨b, o + i * 7 + 1, none⟩ = some (.int .i64 op.fd) ∧ W'.cell? ⟨b, o + i * 7 + 2, none⟩ = some (.int .i64 op.frm) ∧ W'.cell? ⟨b, o + i * 7 + 3, none⟩ = some (.int .i64 op.kind) ∧ W'.cell? ⟨b, o + i * 7 + 4, none⟩ = some (.int .i64 op.n) ∧ W'.cell? ⟨b, o + i * 7 + 5, none⟩ = some (.string op.path) ∧ W'.cell? ⟨b, o + i * 7 + 6, none⟩ = some (.string op.data)) := Lib.hid fun W' A h => by
          have q := woP_cells h.right
          exact ⟨q.1, q.2.1, q.2.2.1, q.2.2.2.1, q.2.2.2.2, HopA.out W' h.right.right.kept⟩
        obtain ⟨oa, ofd, ofr, okd, on, opt, od⟩ := op
        dsimp only at HK
        have K4 := HK.out _ _ Sd
        have Rd := Lib.hid (Ran.drewN HRi.out 1)
        clear Sd okx hfo hbW hop hope HopA
        go_upto_region 9 with fail
        refine region_plan (S := (fun w' => w'.cell? ⟨wb, 0, none⟩ = some (Hd.pp c.fb) ∧ w'.cell? ⟨wb, 1, none⟩ = some (Hd.pp c.bp) ∧ w'.cell? ⟨wb, 2, none⟩ = some (Hd.pp c.tb) ∧ w'.cell? ⟨wb, 3, none⟩ = some (Hd.pp lb) ∧ w'.cell? ⟨wb, 4, none⟩ = some (Hd.pp pb) ∧ w'.cell? ⟨b, o + i * 7, none⟩ = some (.int .i64 oa) ∧ w'.cell? ⟨b, o + i * 7 + 1, none⟩ = some (.int .i64 ofd) ∧ w'.cell? ⟨b, o + i * 7 + 2, none⟩ = some (.int .i64 ofr) ∧ w'.cell? ⟨b, o + i * 7 + 3, none⟩ = some (.int .i64 okd) ∧ w'.cell? ⟨b, o + i * 7 + 4, none⟩ = some (.int .i64 on) ∧ w'.cell? ⟨b, o + i * 7 + 5, none⟩ = some (.string opt) ∧ w'.cell? ⟨b, o + i * 7 + 6, none⟩ = some (.string od))) [(0, true), (1, true), (2, true), (3, true), (4, true), (5, false)] (by kernel_rfl) (by kernel_rfl) (by kernel_rfl) ?_ ?_
        · ((try dsimp only); (first | done | (first | with_reducible exact K4 | with_reducible exact K5)))
        simp only [planOps, List.map_cons, List.map_nil, List.getElem?_toArray, List.getElem?_cons_zero, List.getElem?_cons_succ]
        repeat (first
          | ((refine plan_yes (v := ?_) (by rfl) ?_ ?_); rotate_left; (focus (intro w hSw; (try dsimp only at hSw); go_simp; try (with_reducible rfl))); (try simp only [Act.put, List.setIfInBounds_toArray, List.set_cons_zero, List.set_cons_succ]))
          | ((refine plan_no (by rfl) ?_); (try simp only [Act.put, List.setIfInBounds_toArray, List.set_cons_zero, List.set_cons_succ]))
          | ((refine plan_step (fun K hK => ?_)); (first | (go_simp; ((go_at_call 11; refine HD.out.mono ?_; rintro e w5 ⟨n, s, er, rfl, p', nl', ms', hst, hgd', S5, R5⟩; have K5 := HK.out _ _ S5)); (try go_wp2_with fail)) | go_simp); (refine hK.out _ _ ?_ (fun hHeld => ?_)); (focus ((try dsimp only); (first | done | (first | with_reducible exact K4 | with_reducible exact K5)))); clear hK K; (try simp only [Act.put, List.setIfInBounds_toArray, List.set_cons_zero, List.set_cons_succ])))
        refine plan_done ?_
        have R5 := Lib.hid (Below.trans Rd.out R5)
        have Hst := Lib.hid hst
        have Hgd' := Lib.hid hgd'
        clear HD HK K4 K5 Rd hst hgd'
        have S5 := Lib.hid S5
        clear HSi
        go_wp2_with fail
        go_roundg (l.length - (i + 1))
        case measure => omega
        case rel => exact ⟨i + 1, p', nl', ms', by simp, by omega, Hgd'.out, S5.out, R5.out⟩
      · have hge : (l.length : Int) ≤ i := by omega
        have S6 := Lib.hid (ph_more (M := 200000) (by omega) HSi)
        have R6 := Lib.hid HRi
        have Hgd := Lib.hid hgd
        have hms : ms.length ≤ 4 := hgd.inv.few
        clear HSi HRi hgd
        go_wp2_with fail
        go_loopg [] (ms.length) (fun (g : Nat) (wr : World) => LvU c pb lb wb (keep W) W g wr)
        case atStart => exact ⟨p, nl, ms, rfl, hms, Hgd.out, ph_more (by omega) S6.out, R6.out⟩
        case round =>
          clear S6 R6 Hgd hms
          obtain ⟨p, nl, ms, hml, hg4, hgd, S7, R7⟩ := hrel
          have HMk := marks_gd hgd S7
          rw [hml] at HMk
          have HMk := Lib.hid HMk
          obtain ⟨-, -, -, c3, c4⟩ := woP_cells (S7.perm (show _ = pts wb (BX c lb pb) * (PH c (200000 + 1000 * (4 - gk)) b0 1000 p nl ms * keep W) by ac_rfl))
          have R7 := Lib.hid R7
          by_cases hg0 : gk = 0
          · subst hg0
            obtain rfl : ms = [] := List.eq_nil_of_length_eq_zero hml
            obtain rfl : nl = [] := hgd.inv.bare
            have S7 := Lib.hid (ph_more (M := 300000) (by omega) S7)
            have Hgd := Lib.hid hgd
            clear hml hgd
            go_wp2_with fail
            refine HMk.out.mono ?_
            rintro e w8 ⟨rfl, rfl⟩
            clear HMk c3 c4
            go_wp2_with fail
            go_loopg [6] (16) (fun (g : Nat) (v6 : Value) (wr : World) => LvC c pb lb wb (keep W) W g v6 wr)
            case atStart => exact ⟨0, p, rfl, rfl, Hgd.out, fun j hj => absurd hj (by omega), S7.out, R7.out⟩
            case round =>
              clear S7 R7 Hgd
              obtain ⟨i, p, rfl, hi16, hgd, hcl, S8, R8⟩ := hrel
              obtain ⟨c0, -, c2, -, c4⟩ := woP_cells (S8.perm (show _ = pts wb (BX c lb pb) * (PH c (300000 + 3 * i) b0 1000 p [] [] * keep W) by ac_rfl))
              have R8 := Lib.hid R8
              have hi0 : (0 : Int) ≤ (i : Int) := by omega
              by_cases hi : i < 16
              · have hiI : (i : Int) < 16 := by omega
                have HCl := Lib.hid (close_gd hgd (by omega) i hi S8)
                have Hcl := Lib.hid hcl
                clear hgd hcl S8 c0 c2
                go_wp2_with fail
                refine HCl.out.mono ?_
                rintro e w9 ⟨rfl, p', hgd, h0, hj, S9, R9⟩
                have Hcl : Hid (∀ j, j < i + 1 → (p'.sl j).has = 0) := Lib.hid fun j hj1 => by
                  by_cases e : j = i
                  · rw [e]; exact h0
                  · rw [hj j (by omega) e]; exact Hcl.out j (by omega)
                have Hgd := Lib.hid hgd
                have S9 := Lib.hid S9
                have R9 := Lib.hid (Below.trans R8.out R9)
                clear HCl hgd h0 hj c4 R8
                go_wp2_with fail
                go_roundg (16 - (i + 1))
                case measure => omega
                case rel => exact ⟨i + 1, p', by simp, by omega, Hgd.out, Hcl.out, ph_more (by omega) S9.out, R9.out⟩
              · have hie : i = 16 := by omega
                subst hie
                have hf := f_none hgd.link.len hcl
                have HAl := l_All (b := b0) (by omega) S8
                have HHo := Lib.hid (fun (n : Int) (hn : I64 n) (W' : World) (S : Hp) (hW : Sat W' (PH c (300000 + 3 * 16) b0 1000 p [] [] * S)) => holds_gd hgd hf (by omega) hn hW)
                have HDr := Lib.hid (fun (W' : World) (S : Hp) (hW : Sat W' (PH c (300000 + 3 * 16) b0 1000 p [] [] * S)) => dir_gd hgd hW)
                have HST := Lib.hid (fun (id : Int) (hid : I64 id) (W' : World) (S : Hp) (hW : Sat W' (PH c (300000 + 3 * 16) b0 1000 p [] [] * S)) => l_Stat (by omega) hid hW)
                obtain ⟨tb, htb⟩ : ∃ x, x = c.tb := ⟨_, rfl⟩
                rw [← htb] at HAl HST c2
                have HBx := Lib.hid (fun (W' : World) (S : Hp) (hW : Sat W' (pts wb (BX c lb pb) * S)) => (by rw [htb]; exact woP_cells hW : W'.cell? ⟨wb, 0, none⟩ = some (Hd.pp c.fb) ∧ W'.cell? ⟨wb, 1, none⟩ = some (Hd.pp c.bp) ∧ W'.cell? ⟨wb, 2, none⟩ = some (Hd.pp tb) ∧ W'.cell? ⟨wb, 3, none⟩ = some (Hd.pp lb) ∧ W'.cell? ⟨wb, 4, none⟩ = some (Hd.pp pb)))
                have HAl := Lib.hid HAl
                have Hf := Lib.hid hf
                clear htb hf hgd hcl S8 hi0 hi16 hi c0 c4
                go_wp2_with fail
                refine HAl.out.mono ?_
                rintro e w9 ⟨⟨q, qc, ks, rfl, hks, S9⟩, R9⟩
                rw [Hf.out] at hks
                have hk4 := ks_b0 hks
                have Hk4 := Lib.hid hk4
                have Hkl : Hid (ks.length = 4) := Lib.hid (by rw [hk4]; rfl)
                have S9 := Lib.hid S9
                have R9 := Lib.hid (Below.trans R8.out R9)
                have hkl : ks.length ≤ 4 := by rw [hk4]; decide
                clear HAl c2 R8 hks hk4
                go_wp2_with fail
                go_loopg [8, 9, 10] (ks.length) (fun (g : Nat) (v8 v9 v10 : Value) (wr : World) => LpC ks.length (PH c (300000 + 3 * 16) b0 1000 p [] [] * (arr 3 1 q ks.length qc (ks.map iv) * (pts wb (BX c lb pb) * keep W))) W g v8 wr)
                case atStart => exact ⟨0, rfl, by omega, S9.out, R9.out⟩
                case round =>
                  clear S9 R9
                  obtain ⟨i, rfl, hgi, S10, R10⟩ := hrel
                  have hi0 : (0 : Int) ≤ (i : Int) := by omega
                  by_cases hlt : i < ks.length
                  · have hltI : (i : Int) < ks.length := by omega
                    obtain ⟨qb, qo, rfl⟩ := (S10.perm (show _ = arr 3 1 q ks.length qc (ks.map iv) * (PH c (300000 + 3 * 16) b0 1000 p [] [] * (pts wb (BX c lb pb) * keep W)) by ac_rfl)).arr_addr (by have := (S10.perm (show _ = arr 3 1 q ks.length qc (ks.map iv) * (PH c (300000 + 3 * 16) b0 1000 p [] [] * (pts wb (BX c lb pb) * keep W)) by ac_rfl)).arr_len.2.1; omega)
                    obtain ⟨id, hide⟩ : ∃ x, x = ks[i] := ⟨_, rfl⟩
                    have hid4 : 1 ≤ id ∧ id ≤ 4 := by
                      have hm : id ∈ ks := by rw [hide]; exact List.getElem_mem hlt
                      rw [Hk4.out] at hm
                      have : id = 1 ∨ id = 2 ∨ id = 3 ∨ id = 4 := by simpa using hm
                      omega
                    have hidI : I64 id := by unfold I64; omega
                    have Hrf1 : Hid (fOf b0 p [] id = 1) := Lib.hid (by rw [Hf.out]; unfold b0; rw [if_pos hid4])
                    have Hide := Lib.hid hide
                    have S10 := Lib.hid S10
                    have R10 := Lib.hid R10
                    clear hide
                    have HSA := Lib.hid (HST.out id hidI _ _ S10.out.drew)
                    have HSB := Lib.hid (HST.out id hidI _ _ (((S10.out.alloc (inO 0 0 0 0 ⟨false, false, false⟩)).perm (show _ = PH c (300000 + 3 * 16) b0 1000 p [] [] * (pts wr.heap.size (inO 0 0 0 0 ⟨false, false, false⟩) * (arr 3 1 (some ⟨qb, qo, none⟩) ks.length qc (ks.map iv) * (pts wb (BX c lb pb) * keep W))) by ac_rfl)).drew))
                    obtain ⟨rf, hrf⟩ : ∃ rf, rf = fOf b0 p [] id := ⟨_, rfl⟩
                    rw [← hrf] at HSA HSB
                    have Hrf := Lib.hid hrf
                    have HC := Lib.hid (fun (W' : World) (h : Sat W' (PH c (300000 + 3 * 16) b0 1000 p [] [] * (arr 3 1 (some ⟨qb, qo, none⟩) ks.length qc (ks.map iv) * (pts wb (BX c lb pb) * keep W)))) => (And.intro ((HBx.out _ _ h.right.right).2.2.1) (by rw [Hide.out]; exact arr_int h.right i hlt) : W'.cell? ⟨wb, 2, none⟩ = some (Hd.pp tb) ∧ W'.cell? ⟨qb, qo + i, none⟩ = some (.int .i64 id)))
                    have k0 := HC.out _ S10.out.drew
                    have k0b := HC.out _ (S10.out.old (inO 0 0 0 0 ⟨false, false, false⟩)).drew
                    clear hrf
                    go_upto_region 22 with fail
                    go_cut [9, 10] from 57 to 82 (fun sx se wx => CutI rf (PH c (300000 + 3 * 16) b0 1000 p [] [] * (arr 3 1 (some ⟨qb, qo, none⟩) ks.length qc (ks.map iv) * (pts wb (BX c lb pb) * keep W))) W sx se wx)
                    case first =>
                      refine region_tree (S := (fun w' => w'.cell? ⟨wb, 2, none⟩ = some (Hd.pp tb) ∧ w'.cell? ⟨qb, qo + i, none⟩ = some (.int .i64 id))) (.take 0 (.take 1 (.take 2 (.take 3 (.take 4 (.take 5 (.fork 6 (.take 7 (.take 8 (.take 9 (.step 10 (.step 11 (.take 12 (.nil))))))) 10 (.step 6 (.take 7 (.take 8 (.take 9 (.step 11 (.take 12 (.nil)))))))))))))) (by kernel_rfl) (by kernel_rfl) (by kernel_rfl) ?_ ?_
                      · ((try dsimp only); (first | done | (first | with_reducible exact k0 | with_reducible exact k0b | with_reducible exact k4 | with_reducible exact k4a _ | with_reducible exact k4b | with_reducible exact Kset.out)))
                      simp only [Plan.ops, List.getElem?_toArray, List.getElem?_cons_zero, List.getElem?_cons_succ]
                      ((first | ((refine tree_yes (v := ?_) (by rfl) ?_ ?_); rotate_left; (focus (intro w hSw; (try dsimp only at hSw); go_simp; try (with_reducible rfl)))) | (refine tree_no (by rfl) ?_)); (try simp only [Act.put, List.setIfInBounds_toArray, List.set_cons_zero, List.set_cons_succ]))
                      ((first | ((refine tree_yes (v := ?_) (by rfl) ?_ ?_); rotate_left; (focus (intro w hSw; (try dsimp only at hSw); go_simp; try (with_reducible rfl)))) | (refine tree_no (by rfl) ?_)); (try simp only [Act.put, List.setIfInBounds_toArray, List.set_cons_zero, List.set_cons_succ]))
                      ((first | ((refine tree_yes (v := ?_) (by rfl) ?_ ?_); rotate_left; (focus (intro w hSw; (try dsimp only at hSw); go_simp; try (with_reducible rfl)))) | (refine tree_no (by rfl) ?_)); (try simp only [Act.put, List.setIfInBounds_toArray, List.set_cons_zero, List.set_cons_succ]))
                      ((first | ((refine tree_yes (v := ?_) (by rfl) ?_ ?_); rotate_left; (focus (intro w hSw; (try dsimp only at hSw); go_simp; try (with_reducible rfl)))) | (refine tree_no (by rfl) ?_)); (try simp only [Act.put, List.setIfInBounds_toArray, List.set_cons_zero, List.set_cons_succ]))
                      ((first | ((refine tree_yes (v := ?_) (by rfl) ?_ ?_); rotate_left; (focus (intro w hSw; (try dsimp only at hSw); go_simp; try (with_reducible rfl)))) | (refine tree_no (by rfl) ?_)); (try simp only [Act.put, List.setIfInBounds_toArray, List.set_cons_zero, List.set_cons_succ]))
                      ((first | ((refine tree_yes (v := ?_) (by rfl) ?_ ?_); rotate_left; (focus (intro w hSw; (try dsimp only at hSw); go_simp; try (with_reducible rfl)))) | (refine tree_no (by rfl) ?_)); (try simp only [Act.put, List.setIfInBounds_toArray, List.set_cons_zero, List.set_cons_succ]))
                      refine tree_fork (fun K hK => ?_) (fun K hK => ?_)
                      focus
                        ((first | (go_simp; (first | (go_at_call 21; with_reducible refine HSA.out.mono ?_; rintro e w8 ⟨⟨k, a, d, m, er, rfl, -⟩, S8, R8⟩; have k4 := HC.out _ S8; have k4a := (fun o => HC.out _ (S8.old o)); have S8 := Lib.hid S8; have R8 := Lib.hid R8) | (go_at_call 21; with_reducible refine HSB.out.mono ?_; rintro e w8 ⟨⟨k, a, d, m, er, rfl, -⟩, S8, R8⟩; have S8b := S8.perm (show _ = pts wr.heap.size (inO 0 0 0 0 ⟨false, false, false⟩) * (PH c (300000 + 3 * 16) b0 1000 p [] [] * (arr 3 1 (some ⟨qb, qo, none⟩) ks.length qc (ks.map iv) * (pts wb (BX c lb pb) * keep W))) by ac_rfl); clear S8; have k4b := HC.out _ S8b.right; obtain ⟨z0, z1, z2, z3, z4, z5, z6⟩ := in_cells S8b; have f0b : ∀ i, w8.frozen? ⟨wr.heap.size, i, none⟩ = false := (fun i => free_at S8b.get i); have S8c := (((((((S8b.set (i := 0) (.int .i64 k)).set (i := 1) (.int .i64 rf)).set (i := 2) (.int .i64 a)).set (i := 3) (.int .i64 d)).set (i := 4) (.bool m.r)).set (i := 5) (.bool m.w)).set (i := 6) (.bool m.m)); have Kset := Lib.hid (HC.out _ S8c.right); have S8b := Lib.hid S8b; have R8 := Lib.hid R8; clear S8c)); (try go_wp2_with fail)) | go_simp); (refine hK.out _ _ ?_ (fun hHeld => ?_)); (focus ((try dsimp only); (first | done | (first | with_reducible exact k0 | with_reducible exact k0b | with_reducible exact k4 | with_reducible exact k4a _ | with_reducible exact k4b | with_reducible exact Kset.out)))); clear hK K; (try simp only [Act.put, List.setIfInBounds_toArray, List.set_cons_zero, List.set_cons_succ]))
                        ((first | ((refine tree_yes (v := ?_) (by rfl) ?_ ?_); rotate_left; (focus (intro w hSw; (try dsimp only at hSw); go_simp; try (with_reducible rfl)))) | (refine tree_no (by rfl) ?_)); (try simp only [Act.put, List.setIfInBounds_toArray, List.set_cons_zero, List.set_cons_succ]))
                        ((first | ((refine tree_yes (v := ?_) (by rfl) ?_ ?_); rotate_left; (focus (intro w hSw; (try dsimp only at hSw); go_simp; try (with_reducible rfl)))) | (refine tree_no (by rfl) ?_)); (try simp only [Act.put, List.setIfInBounds_toArray, List.set_cons_zero, List.set_cons_succ]))
                        ((first | ((refine tree_yes (v := ?_) (by rfl) ?_ ?_); rotate_left; (focus (intro w hSw; (try dsimp only at hSw); go_simp; try (with_reducible rfl)))) | (refine tree_no (by rfl) ?_)); (try simp only [Act.put, List.setIfInBounds_toArray, List.set_cons_zero, List.set_cons_succ]))
                        ((refine tree_step (fun K hK => ?_)); (first | (go_simp; (first | (go_at_call 21; with_reducible refine HSA.out.mono ?_; rintro e w8 ⟨⟨k, a, d, m, er, rfl, -⟩, S8, R8⟩; have k4 := HC.out _ S8; have k4a := (fun o => HC.out _ (S8.old o)); have S8 := Lib.hid S8; have R8 := Lib.hid R8) | (go_at_call 21; with_reducible refine HSB.out.mono ?_; rintro e w8 ⟨⟨k, a, d, m, er, rfl, -⟩, S8, R8⟩; have S8b := S8.perm (show _ = pts wr.heap.size (inO 0 0 0 0 ⟨false, false, false⟩) * (PH c (300000 + 3 * 16) b0 1000 p [] [] * (arr 3 1 (some ⟨qb, qo, none⟩) ks.length qc (ks.map iv) * (pts wb (BX c lb pb) * keep W))) by ac_rfl); clear S8; have k4b := HC.out _ S8b.right; obtain ⟨z0, z1, z2, z3, z4, z5, z6⟩ := in_cells S8b; have f0b : ∀ i, w8.frozen? ⟨wr.heap.size, i, none⟩ = false := (fun i => free_at S8b.get i); have S8c := (((((((S8b.set (i := 0) (.int .i64 k)).set (i := 1) (.int .i64 rf)).set (i := 2) (.int .i64 a)).set (i := 3) (.int .i64 d)).set (i := 4) (.bool m.r)).set (i := 5) (.bool m.w)).set (i := 6) (.bool m.m)); have Kset := Lib.hid (HC.out _ S8c.right); have S8b := Lib.hid S8b; have R8 := Lib.hid R8; clear S8c)); (try go_wp2_with fail)) | go_simp); (refine hK.out _ _ ?_ (fun hHeld => ?_)); (focus ((try dsimp only); (first | done | (first | with_reducible exact k0 | with_reducible exact k0b | with_reducible exact k4 | with_reducible exact k4a _ | with_reducible exact k4b | with_reducible exact Kset.out)))); clear hK K; (try simp only [Act.put, List.setIfInBounds_toArray, List.set_cons_zero, List.set_cons_succ]))
                        ((refine tree_step (fun K hK => ?_)); (first | (go_simp; (first | (go_at_call 21; with_reducible refine HSA.out.mono ?_; rintro e w8 ⟨⟨k, a, d, m, er, rfl, -⟩, S8, R8⟩; have k4 := HC.out _ S8; have k4a := (fun o => HC.out _ (S8.old o)); have S8 := Lib.hid S8; have R8 := Lib.hid R8) | (go_at_call 21; with_reducible refine HSB.out.mono ?_; rintro e w8 ⟨⟨k, a, d, m, er, rfl, -⟩, S8, R8⟩; have S8b := S8.perm (show _ = pts wr.heap.size (inO 0 0 0 0 ⟨false, false, false⟩) * (PH c (300000 + 3 * 16) b0 1000 p [] [] * (arr 3 1 (some ⟨qb, qo, none⟩) ks.length qc (ks.map iv) * (pts wb (BX c lb pb) * keep W))) by ac_rfl); clear S8; have k4b := HC.out _ S8b.right; obtain ⟨z0, z1, z2, z3, z4, z5, z6⟩ := in_cells S8b; have f0b : ∀ i, w8.frozen? ⟨wr.heap.size, i, none⟩ = false := (fun i => free_at S8b.get i); have S8c := (((((((S8b.set (i := 0) (.int .i64 k)).set (i := 1) (.int .i64 rf)).set (i := 2) (.int .i64 a)).set (i := 3) (.int .i64 d)).set (i := 4) (.bool m.r)).set (i := 5) (.bool m.w)).set (i := 6) (.bool m.m)); have Kset := Lib.hid (HC.out _ S8c.right); have S8b := Lib.hid S8b; have R8 := Lib.hid R8; clear S8c)); (try go_wp2_with fail)) | go_simp); (refine hK.out _ _ ?_ (fun hHeld => ?_)); (focus ((try dsimp only); (first | done | (first | with_reducible exact k0 | with_reducible exact k0b | with_reducible exact k4 | with_reducible exact k4a _ | with_reducible exact k4b | with_reducible exact Kset.out)))); clear hK K; (try simp only [Act.put, List.setIfInBounds_toArray, List.set_cons_zero, List.set_cons_succ]))
                        ((first | ((refine tree_yes (v := ?_) (by rfl) ?_ ?_); rotate_left; (focus (intro w hSw; (try dsimp only at hSw); go_simp; try (with_reducible rfl)))) | (refine tree_no (by rfl) ?_)); (try simp only [Act.put, List.setIfInBounds_toArray, List.set_cons_zero, List.set_cons_succ]))
                        refine tree_done ?_
                      rotate_left 1
                      focus
                        ((first | (go_simp; (first | (go_at_call 21; with_reducible refine HSA.out.mono ?_; rintro e w8 ⟨⟨k, a, d, m, er, rfl, -⟩, S8, R8⟩; have k4 := HC.out _ S8; have k4a := (fun o => HC.out _ (S8.old o)); have S8 := Lib.hid S8; have R8 := Lib.hid R8) | (go_at_call 21; with_reducible refine HSB.out.mono ?_; rintro e w8 ⟨⟨k, a, d, m, er, rfl, -⟩, S8, R8⟩; have S8b := S8.perm (show _ = pts wr.heap.size (inO 0 0 0 0 ⟨false, false, false⟩) * (PH c (300000 + 3 * 16) b0 1000 p [] [] * (arr 3 1 (some ⟨qb, qo, none⟩) ks.length qc (ks.map iv) * (pts wb (BX c lb pb) * keep W))) by ac_rfl); clear S8; have k4b := HC.out _ S8b.right; obtain ⟨z0, z1, z2, z3, z4, z5, z6⟩ := in_cells S8b; have f0b : ∀ i, w8.frozen? ⟨wr.heap.size, i, none⟩ = false := (fun i => free_at S8b.get i); have S8c := (((((((S8b.set (i := 0) (.int .i64 k)).set (i := 1) (.int .i64 rf)).set (i := 2) (.int .i64 a)).set (i := 3) (.int .i64 d)).set (i := 4) (.bool m.r)).set (i := 5) (.bool m.w)).set (i := 6) (.bool m.m)); have Kset := Lib.hid (HC.out _ S8c.right); have S8b := Lib.hid S8b; have R8 := Lib.hid R8; clear S8c)); (try go_wp2_with fail)) | go_simp); (refine hK.out _ _ ?_ (fun hHeld => ?_)); (focus ((try dsimp only); (first | done | (first | with_reducible exact k0 | with_reducible exact k0b | with_reducible exact k4 | with_reducible exact k4a _ | with_reducible exact k4b | with_reducible exact Kset.out)))); clear hK K; (try simp only [Act.put, List.setIfInBounds_toArray, List.set_cons_zero, List.set_cons_succ]))
                        ((refine tree_step (fun K hK => ?_)); (first | (go_simp; (first | (go_at_call 21; with_reducible refine HSA.out.mono ?_; rintro e w8 ⟨⟨k, a, d, m, er, rfl, -⟩, S8, R8⟩; have k4 := HC.out _ S8; have k4a := (fun o => HC.out _ (S8.old o)); have S8 := Lib.hid S8; have R8 := Lib.hid R8) | (go_at_call 21; with_reducible refine HSB.out.mono ?_; rintro e w8 ⟨⟨k, a, d, m, er, rfl, -⟩, S8, R8⟩; have S8b := S8.perm (show _ = pts wr.heap.size (inO 0 0 0 0 ⟨false, false, false⟩) * (PH c (300000 + 3 * 16) b0 1000 p [] [] * (arr 3 1 (some ⟨qb, qo, none⟩) ks.length qc (ks.map iv) * (pts wb (BX c lb pb) * keep W))) by ac_rfl); clear S8; have k4b := HC.out _ S8b.right; obtain ⟨z0, z1, z2, z3, z4, z5, z6⟩ := in_cells S8b; have f0b : ∀ i, w8.frozen? ⟨wr.heap.size, i, none⟩ = false := (fun i => free_at S8b.get i); have S8c := (((((((S8b.set (i := 0) (.int .i64 k)).set (i := 1) (.int .i64 rf)).set (i := 2) (.int .i64 a)).set (i := 3) (.int .i64 d)).set (i := 4) (.bool m.r)).set (i := 5) (.bool m.w)).set (i := 6) (.bool m.m)); have Kset := Lib.hid (HC.out _ S8c.right); have S8b := Lib.hid S8b; have R8 := Lib.hid R8; clear S8c)); (try go_wp2_with fail)) | go_simp); (refine hK.out _ _ ?_ (fun hHeld => ?_)); (focus ((try dsimp only); (first | done | (first | with_reducible exact k0 | with_reducible exact k0b | with_reducible exact k4 | with_reducible exact k4a _ | with_reducible exact k4b | with_reducible exact Kset.out)))); clear hK K; (try simp only [Act.put, List.setIfInBounds_toArray, List.set_cons_zero, List.set_cons_succ]))
                        ((first | ((refine tree_yes (v := ?_) (by rfl) ?_ ?_); rotate_left; (focus (intro w hSw; (try dsimp only at hSw); go_simp; try (with_reducible rfl)))) | (refine tree_no (by rfl) ?_)); (try simp only [Act.put, List.setIfInBounds_toArray, List.set_cons_zero, List.set_cons_succ]))
                        ((first | ((refine tree_yes (v := ?_) (by rfl) ?_ ?_); rotate_left; (focus (intro w hSw; (try dsimp only at hSw); go_simp; try (with_reducible rfl)))) | (refine tree_no (by rfl) ?_)); (try simp only [Act.put, List.setIfInBounds_toArray, List.set_cons_zero, List.set_cons_succ]))
                        ((first | ((refine tree_yes (v := ?_) (by rfl) ?_ ?_); rotate_left; (focus (intro w hSw; (try dsimp only at hSw); go_simp; try (with_reducible rfl)))) | (refine tree_no (by rfl) ?_)); (try simp only [Act.put, List.setIfInBounds_toArray, List.set_cons_zero, List.set_cons_succ]))
                        ((refine tree_step (fun K hK => ?_)); (first | (go_simp; (first | (go_at_call 21; with_reducible refine HSA.out.mono ?_; rintro e w8 ⟨⟨k, a, d, m, er, rfl, -⟩, S8, R8⟩; have k4 := HC.out _ S8; have k4a := (fun o => HC.out _ (S8.old o)); have S8 := Lib.hid S8; have R8 := Lib.hid R8) | (go_at_call 21; with_reducible refine HSB.out.mono ?_; rintro e w8 ⟨⟨k, a, d, m, er, rfl, -⟩, S8, R8⟩; have S8b := S8.perm (show _ = pts wr.heap.size (inO 0 0 0 0 ⟨false, false, false⟩) * (PH c (300000 + 3 * 16) b0 1000 p [] [] * (arr 3 1 (some ⟨qb, qo, none⟩) ks.length qc (ks.map iv) * (pts wb (BX c lb pb) * keep W))) by ac_rfl); clear S8; have k4b := HC.out _ S8b.right; obtain ⟨z0, z1, z2, z3, z4, z5, z6⟩ := in_cells S8b; have f0b : ∀ i, w8.frozen? ⟨wr.heap.size, i, none⟩ = false := (fun i => free_at S8b.get i); have S8c := (((((((S8b.set (i := 0) (.int .i64 k)).set (i := 1) (.int .i64 rf)).set (i := 2) (.int .i64 a)).set (i := 3) (.int .i64 d)).set (i := 4) (.bool m.r)).set (i := 5) (.bool m.w)).set (i := 6) (.bool m.m)); have Kset := Lib.hid (HC.out _ S8c.right); have S8b := Lib.hid S8b; have R8 := Lib.hid R8; clear S8c)); (try go_wp2_with fail)) | go_simp); (refine hK.out _ _ ?_ (fun hHeld => ?_)); (focus ((try dsimp only); (first | done | (first | with_reducible exact k0 | with_reducible exact k0b | with_reducible exact k4 | with_reducible exact k4a _ | with_reducible exact k4b | with_reducible exact Kset.out)))); clear hK K; (try simp only [Act.put, List.setIfInBounds_toArray, List.set_cons_zero, List.set_cons_succ]))
                        ((first | ((refine tree_yes (v := ?_) (by rfl) ?_ ?_); rotate_left; (focus (intro w hSw; (try dsimp only at hSw); go_simp; try (with_reducible rfl)))) | (refine tree_no (by rfl) ?_)); (try simp only [Act.put, List.setIfInBounds_toArray, List.set_cons_zero, List.set_cons_succ]))
                        refine tree_done ?_
                      all_goals
                        first
                        | (have R9 := Ran.new (Below.trans (Ran.drewN R10.out 1) R8.out) (inO k rf a d m); have S9 := S8.out.alloc (inO k rf a d m); obtain ⟨w6, hw6⟩ : ∃ w6, w6 = w8.alloc (inO k rf a d m) := ⟨_, rfl⟩; obtain ⟨ib, hib⟩ : ∃ ib, ib = w8.heap.size := ⟨_, rfl⟩; rw [← hw6] at R9 S9 ⊢; rw [← hib] at S9 ⊢)
                        | (have R9 := (Ran.set (Ran.set (Ran.set (Ran.set (Ran.set (Ran.set (Ran.set (Below.trans (Ran.drewN (Ran.new R10.out (inO 0 0 0 0 ⟨false, false, false⟩)) 1) R8.out) ⟨wr.heap.size, 0, none⟩ (.int .i64 k)) ⟨wr.heap.size, 1, none⟩ (.int .i64 rf)) ⟨wr.heap.size, 2, none⟩ (.int .i64 a)) ⟨wr.heap.size, 3, none⟩ (.int .i64 d)) ⟨wr.heap.size, 4, none⟩ (.bool m.r)) ⟨wr.heap.size, 5, none⟩ (.bool m.w)) ⟨wr.heap.size, 6, none⟩ (.bool m.m)); have S9 := (((((((S8b.out.set (i := 0) (.int .i64 k)).set (i := 1) (.int .i64 rf)).set (i := 2) (.int .i64 a)).set (i := 3) (.int .i64 d)).set (i := 4) (.bool m.r)).set (i := 5) (.bool m.w)).set (i := 6) (.bool m.m)); obtain ⟨w6, hw6⟩ : ∃ w6, w6 = (((((((w8.setCell ⟨wr.heap.size, 0, none⟩ (.int .i64 k)).setCell ⟨wr.heap.size, 1, none⟩ (.int .i64 rf)).setCell ⟨wr.heap.size, 2, none⟩ (.int .i64 a)).setCell ⟨wr.heap.size, 3, none⟩ (.int .i64 d)).setCell ⟨wr.heap.size, 4, none⟩ (.bool m.r)).setCell ⟨wr.heap.size, 5, none⟩ (.bool m.w)).setCell ⟨wr.heap.size, 6, none⟩ (.bool m.m)) := ⟨_, rfl⟩; obtain ⟨ib, hib⟩ : ∃ ib, ib = wr.heap.size := ⟨_, rfl⟩; rw [← hw6] at R9 S9 ⊢; rw [← hib] at S9 ⊢)
                      all_goals
                        have S9 : Sat w6 (pts ib (inO k rf a d m) * (PH c (300000 + 3 * 16) b0 1000 p [] [] * (arr 3 1 (some ⟨qb, qo, none⟩) ks.length qc (ks.map iv) * (pts wb (BX c lb pb) * keep W)))) := S9
                        have S9 := Lib.hid S9
                        have R9 := Lib.hid R9
                        clear hw6 hib
                        go_wp2_with fail
                        go_meet
                        case rel => exact ⟨ib, k, a, d, er, m, rfl, rfl, S9.out, R9.out⟩
                    case rest =>
                      obtain ⟨ib, k, a, d, er, m, rfl, rfl, S9, R9⟩ := hcut
                      obtain rfl : rf = 1 := Hrf.out.trans Hrf1.out
                      have S9d := Lib.hid S9
                      have hn4 : ¬ (4 : Int) < id := by omega
                      have hn4b : (decide ((4 : Int) < id)) = false := by simpa using hid4.2
                      obtain ⟨-, z1, -⟩ := in_cells S9
                      have z2 := (HC.out _ S9.right).2
                      have S9e := Lib.hid S9.right
                      have R9 := Lib.hid R9
                      clear HC HSA HSB S9 k0 k0b S9d Hrf Hrf1
                      go_wp2_with fail
                      go_roundg (ks.length - (i + 1))
                      case measure => omega
                      case rel => exact ⟨i + 1, by simp, by omega, S9e.out, R9.out⟩
                  · have hge : (ks.length : Int) ≤ i := by omega
                    have S11 := Lib.hid (S10.perm (show _ = arr 3 1 q ks.length qc (ks.map iv) * (PH c (300000 + 3 * 16) b0 1000 p [] [] * (pts wb (BX c lb pb) * keep W)) by ac_rfl)).right
                    have R11 := Lib.hid R10
                    clear S10 R10 HST hgi
                    go_wp2_with fail
                    go_loopg [11, 12, 13, 14] (12) (fun (g : Nat) (v11 v12 v13 v14 : Value) (wr : World) => LvH c lb pb wb (PH c (300000 + 3 * 16) b0 1000 p [] []) (keep W) W g v11 wr)
                    case atStart => exact ⟨1, rfl, rfl, S11.out, R11.out⟩
                    case round =>
                      clear S11 R11
                      obtain ⟨k, rfl, hgk3, S12, R12⟩ := hrel
                      by_cases hk : k ≤ 12
                      · have hkI : (k : Int) ≤ 12 := by omega
                        have hk0 : (0 : Int) ≤ (k : Int) := by omega
                        have HSt := Lib.hid (HHo.out (k : Int) (by unfold I64; omega) wr _ S12)
                        obtain ⟨c0, -, -, -, -⟩ := HBx.out _ _ (S12.perm (show _ = pts wb (BX c lb pb) * (PH c (300000 + 3 * 16) b0 1000 p [] [] * keep W) by ac_rfl))
                        have R12 := Lib.hid R12
                        clear S12
                        obtain ⟨dh, hdh⟩ : ∃ x, x = p.dir.has := ⟨_, rfl⟩
                        have HDr2 := Lib.hid (fun (W' : World) (S : Hp) (hW : Sat W' (PH c (300000 + 3 * 16) b0 1000 p [] [] * S)) => (by rw [hdh]; exact HDr.out W' S hW : Calls Tryz.prog 15 #[Hd.pp pb] W' fun e w' => e = .returned (.int .i64 dh) ∧ W' = w'))
                        rw [← hdh] at HSt
                        clear hdh
                        by_cases hd : (k : Int) = dh
                        · subst hd
                          rw [if_pos rfl] at HSt
                          go_wp2_with fail
                          refine HSt.out.mono ?_
                          rintro e w13 ⟨⟨fk, fz, fm, fe, rfl⟩, S13, R13⟩
                          have S14 := (S13.alloc (nfO fk fz fm 1)).perm (show _ = PH c (300000 + 3 * 16) b0 1000 p [] [] * (pts w13.heap.size (nfO fk fz fm 1) * (pts wb (BX c lb pb) * keep W)) by ac_rfl)
                          have R14 := Lib.hid (Ran.new (Below.trans R12.out R13) (nfO fk fz fm 1))
                          obtain ⟨w14, hw14⟩ : ∃ x, x = w13.alloc (nfO fk fz fm 1) := ⟨_, rfl⟩
                          obtain ⟨nb, hnb⟩ : ∃ x, x = w13.heap.size := ⟨_, rfl⟩
                          rw [← hw14] at S14 R14
                          rw [← hnb] at S14
                          have HD := Lib.hid (HDr2.out w14 _ S14)
                          obtain ⟨-, -, -, -, c4⟩ := HBx.out _ _ (S14.perm (show _ = pts wb (BX c lb pb) * (PH c (300000 + 3 * 16) b0 1000 p [] [] * (pts nb (nfO fk fz fm 1) * keep W)) by ac_rfl))
                          have z3 := nf_holds (S14.perm (show _ = pts nb (nfO fk fz fm 1) * (PH c (300000 + 3 * 16) b0 1000 p [] [] * (pts wb (BX c lb pb) * keep W)) by ac_rfl))
                          have S15 := Lib.hid (S14.perm (show _ = pts nb (nfO fk fz fm 1) * (PH c (300000 + 3 * 16) b0 1000 p [] [] * (pts wb (BX c lb pb) * keep W)) by ac_rfl)).right
                          clear S13 S14 HSt HDr2 c0
                          go_upto_region 29 with fail
                          rw [← hw14, ← hnb]
                          clear hw14 hnb
                          go_wp2_with fail
                          refine HD.out.mono ?_
                          rintro e w15 ⟨rfl, rfl⟩
                          clear HD c4
                          go_wp2_with fail
                          go_roundg (12 - k)
                          case measure => omega
                          case rel => exact ⟨k + 1, by simp, by omega, S15.out, R14.out⟩
                        · rw [if_neg hd] at HSt
                          have hdb : ((k : Int) == dh) = false := by simpa using hd
                          go_wp2_with fail
                          refine HSt.out.mono ?_
                          rintro e w13 ⟨⟨fk, fz, fm, fe, rfl⟩, S13, R13⟩
                          have S14 := (S13.alloc (nfO fk fz fm 0)).perm (show _ = PH c (300000 + 3 * 16) b0 1000 p [] [] * (pts w13.heap.size (nfO fk fz fm 0) * (pts wb (BX c lb pb) * keep W)) by ac_rfl)
                          have R14 := Lib.hid (Ran.new (Below.trans R12.out R13) (nfO fk fz fm 0))
                          obtain ⟨w14, hw14⟩ : ∃ x, x = w13.alloc (nfO fk fz fm 0) := ⟨_, rfl⟩
                          obtain ⟨nb, hnb⟩ : ∃ x, x = w13.heap.size := ⟨_, rfl⟩
                          rw [← hw14] at S14 R14
                          rw [← hnb] at S14
                          have HD := Lib.hid (HDr2.out w14 _ S14)
                          obtain ⟨-, -, -, -, c4⟩ := HBx.out _ _ (S14.perm (show _ = pts wb (BX c lb pb) * (PH c (300000 + 3 * 16) b0 1000 p [] [] * (pts nb (nfO fk fz fm 0) * keep W)) by ac_rfl))
                          have z3 := nf_holds (S14.perm (show _ = pts nb (nfO fk fz fm 0) * (PH c (300000 + 3 * 16) b0 1000 p [] [] * (pts wb (BX c lb pb) * keep W)) by ac_rfl))
                          have S15 := Lib.hid (S14.perm (show _ = pts nb (nfO fk fz fm 0) * (PH c (300000 + 3 * 16) b0 1000 p [] [] * (pts wb (BX c lb pb) * keep W)) by ac_rfl)).right
                          clear S13 S14 HSt HDr2 c0
                          go_upto_region 29 with fail
                          rw [← hw14, ← hnb]
                          clear hw14 hnb
                          go_wp2_with fail
                          refine HD.out.mono ?_
                          rintro e w15 ⟨rfl, rfl⟩
                          clear HD c4
                          go_wp2_with fail
                          go_roundg (12 - k)
                          case measure => omega
                          case rel => exact ⟨k + 1, by simp, by omega, S15.out, R14.out⟩
                      · have hkI : (12 : Int) < (k : Int) := by omega
                        have S13 := Lib.hid S12.right.right
                        have R13 := Lib.hid R12
                        have hA := Lib.hid (HA.out wr S12.right.right)
                        have hkle : ks.length = 4 := Hkl.out
                        clear S12 R12 hkl
                        go_wp2_with fail
                        refine hA.out.mono ?_
                        rintro e w9 ⟨⟨rfl, h2⟩, h3⟩
                        have h2 := Lib.hid h2
                        have h3 := Lib.hid h3
                        clear hA
                        go_wp2_with fail
                        go_ret
                        exact ⟨rfl, fin_true R13.out h2.out h3.out⟩
          · have hgp : (0 : Int) < (gk : Int) := by omega
            have hne : ms ≠ [] := fun e => hg0 (by rw [← hml, e]; rfl)
            have HUn := Lib.hid (undo_gd hgd (by omega) hne S7)
            have Hml := Lib.hid hml
            clear hml hgd S7 hne
            go_wp2_with fail
            refine HMk.out.mono ?_
            rintro e w8 ⟨rfl, rfl⟩
            clear HMk c3
            go_wp2_with fail
            refine HUn.out.mono ?_
            rintro e w8 ⟨rfl, m, ms0, hms, hgd, S8, R8⟩
            have hl0 : ms0.length = gk - 1 := by have := Hml.out; rw [hms, List.length_append] at this; have : ms0.length + 1 = gk := this; omega
            have Hl0 := Lib.hid hl0
            have Hgd := Lib.hid hgd
            have S8 := Lib.hid S8
            have R8 := Lib.hid (Below.trans R7.out R8)
            clear HUn c4 hms hgd hl0
            go_wp2_with fail
            go_roundg (gk - 1)
            case measure => omega
            case rel => exact ⟨_, _, ms0, Hl0.out, by omega, Hgd.out, ph_more (by omega) S8.out, R8.out⟩
theorem own : ownKnob Tryz.prog.godebug = none := by kernel_rfl
theorem laidOut : laidOutB Tryz.prog = true := by kernel_rfl

set_option maxRecDepth 100000 in
theorem lifted (os : Os) (started : os.Started) (H : Type) (enc : TypeId × Value → H) :
    ReturnsInHanded {} Tryz.checked os 4 .any (fun w args => (Rows.procLeavesSpec.pre enc Tryz.prog Tryz.f4 Rows.procLeavesRow.domain false w args ∧ laidMetH Tryz.prog Rows.procLeavesRow.laid w) ∧ sizedMet enc Tryz.prog Tryz.f4 (OpenSpec.ofChange Rows.procLeavesSpec) false w args) (Rows.procLeavesSpec.post enc Tryz.prog Tryz.f4 false true false false) := by
  refine handed_shaped (C := Tryz.checked) (X := fun w _ => laidMetH Tryz.prog Rows.procLeavesRow.laid w) (fun _ _ _ hh h => h.of_heap hh) own started (by kernel_rfl) Tryz.func4
    (ChangeSpec.witness_shaped (enc := enc) (C := Tryz.checked) (os := os) (X := fun w _ => laidMetH Tryz.prog Rows.procLeavesRow.laid w) false (World.laidAll Tryz.prog os Rows.procLeavesRow.laid) #[.slice none 0 0] 8 (World.laidAll_os _ _ _)
      (World.shaped_of_ZipB (by kernel_rfl) (by kernel_rfl)) (by kernel_rfl) (by kernel_rfl) (by kernel_rfl)
      (by rw [MakeChecks.laidMetH_plain _ _ _ (by kernel_rfl)]; exact laidMet_laidAll _ (by kernel_rfl) (by kernel_rfl))) ?_
  intro W base args ds gs before hval0 hW hcnd _ hL hsh
  have hval : ∀ (j : Nat) t v, Tryz.f4.params[j]? = some t → args[j]? = some v → Value.okWide Tryz.prog W .any base t v := hval0
  have hW' := hW
  obtain ⟨p, q, hA0, hV, rfl, hfz, hnd⟩ := hW
  have hA : DataW.TrodAll enc Tryz.prog W 0 (fun _ => true) true Tryz.f4.params.toList args.toList ds p := hA0
  rw [Tryz.params4] at hA hval
  obtain ⟨v0, vs0, d0, ds0, p0, q0, hargs, rfl, rfl, h0, r0⟩ := trodAll_cons hA
  obtain ⟨rfl, rfl, rfl⟩ := trodAll_nil r0
  obtain rfl : args = #[v0] := by cases args; simp_all
  obtain ⟨rfl, rfl⟩ := trodVars_none hV
  have k0 := h0
  have lt0 : ∀ x ∈ p0, x.block < W.heap.size := by obtain ⟨m, hm⟩ := k0; exact DataW.trod_lt m _ _ _ hm
  obtain ⟨ao0, l0, cap0, rfl, w0⟩ := ops_open (hval 0 22 v0 rfl rfl) h0
  clear hA0 hval0
  refine (walk ao0 cap0 l0 W w0 (glob_keep hsh)).mono fun e W' ⟨he, bel⟩ => ?_
  subst he
  exact ⟨_, rfl, _, _, _, [], _, [], hW', trodAll_mk1 (shut_bool Tryz.underlying4 _), (trodAll_cons_mk (Below.trod laidOut (by kernel_rfl) (of_decide_eq_true (by kernel_rfl)) k0 bel lt0) trodAll_mk0), rfl, bel.frame _, fun h => by cases h⟩

theorem over : Rows.procLeavesRow.holds Tryz.pinned (OpenSpec.ofChange Rows.procLeavesSpec) :=
  OpenClaim.holds_of_wide 4 Tryz.f4 rfl rfl rfl rfl rfl rfl rfl ⟨rfl, rfl, rfl, rfl, rfl⟩ rfl rfl rfl rfl rfl (by kernel_rfl) Tryz.func4 (by kernel_rfl)
    (of_decide_eq_true (by kernel_rfl)) (by unfold Func.isWrapper; first | (rw [if_pos (by decide +kernel)]; kernel_rfl) | (rw [if_neg (by decide +kernel)]; exact ⟨rfl, rfl⟩))
    (fun os started H enc _ => lifted os started H enc)

theorem proved : Rows.ProcLeavesCardSaid :=
  Claim7.holds_tied_plain_at .later [] [.data, .pinned] true (true, "a035c5781683d6981f330a25f830d252f3d8558a1223b6fdcc43f87aa68114b7") false over (fun _ h => by cases h) (by kernel_rfl) (fun _ h => by cases h) procLeaves_row_tie rfl ⟨rfl, rfl⟩ (by kernel_rfl) rfl
    (fun f fn hf hfn => by
      obtain rfl : f = 4 := Option.some.inj ((show Tryz.prog.funcNamed "whelk/whelklaw09.ProcLeaves" = some 4 by kernel_rfl).symm.trans hf) |>.symm
      obtain rfl : fn = Tryz.f4 := (Option.some.inj (Tryz.func4.symm.trans hfn)).symm
      exact ⟨by kernel_rfl, fun j t ht => by
        rw [Tryz.params4] at ht
        have hm : t ∈ [22] := by simpa using Array.mem_of_getElem? ht
        have hall : ([22].all fun u => !Tryz.prog.wantsStandIn u) = true := by kernel_rfl
        exact (show Tryz.prog.wantsStandIn t = false by simpa using List.all_eq_true.1 hall t hm)⟩)
    (by kernel_rfl)
#print axioms proved
end Go.Proofs.YteienbdbhnikbaaGreatDoor.procLeaves

