/- UndoFull: what is refused changes nothing, and without an open mark nothing is noted, or refused: the law returns true, for all rows of calls and any bound. -/
import Derived.Test.YtibgpkcklneloaaUnU
namespace Go.Proofs.Ytibgpkcklneloaa.undoFull
open Go.ChangeShapes Go.WideShapes Go.ChangeAt Go.RowKit Go.Proofs.Ytibgpkcklneloaa Go.Proofs.Ytibgpkcklneloaa.Hp Go.Proofs.Ytibgpkcklneloaa.Undo
set_option linter.unusedVariables false
attribute [local go_sem] Oper.semAt_some

def FRel (lb mb cb tb : Nat) (most : Int) (l : List Opr) (W : World) (g : Nat) (ivv : Value) (wr : World) : Prop :=
  ∃ (i : Nat) (m : Mach), i + g = l.length ∧ ivv = .int .i64 (i : Int) ∧ GoodM most 3 (l.map Opr.k) i m ∧ ThingsM wr lb mb cb most 3 m (2 * i) (pts tb (tO lb mb cb) * keep W) ∧ Ran W wr
set_option maxRecDepth 100000 in
set_option maxHeartbeats 8000000 in
theorem walk (ao : Option Addr) (cap : Nat) (l : List Opr) (most : Int) (W : World) (hl : OpsAt W ao l) (hq : I64 most) :
    Calls Try.prog 6 #[.slice ao l.length cap, .int .i64 most] W fun e w' => e = .returned (.bool true) ∧ Below W.heap.size W w' := by
  by_cases hf : Few l
  · by_cases hm0 : most < 0
    · have H0 := Lib.hid (Sat.start W)
      go_enter Try.func6, Try.ntmps6
      go_wp2_with fail
      refine (few_yes W ao cap l hl hf).mono ?_
      rintro e w9 ⟨rfl, rfl⟩
      go_wp2_with fail
      refine (awake_calls W (keep W) H0.out).mono ?_
      rintro e w3 ⟨⟨rfl, H⟩, b3⟩
      go_wp2_with fail
      go_ret
      exact ⟨rfl, Ran.whole' b3 H⟩
    · have hm0' : 0 ≤ most := by omega
      by_cases hm1 : 100 < most
      · have H0 := Lib.hid (Sat.start W)
        go_enter Try.func6, Try.ntmps6
        go_wp2_with fail
        refine (few_yes W ao cap l hl hf).mono ?_
        rintro e w9 ⟨rfl, rfl⟩
        go_wp2_with fail
        refine (awake_calls W (keep W) H0.out).mono ?_
        rintro e w3 ⟨⟨rfl, H⟩, b3⟩
        go_wp2_with fail
        go_ret
        exact ⟨rfl, Ran.whole' b3 H⟩
      · have hm1' : most ≤ 100 := by omega
        have H0 := Lib.hid (Sat.start W)
        have Hl := Lib.hid hl
        have Hf := Lib.hid hf
        have Hq := Lib.hid hq
        have h60 : (l.length : Int) ≤ 60 := by have := hf.1; omega
        clear hl hf hq
        go_enter Try.func6, Try.ntmps6
        go_wp2_with fail
        refine (few_yes W ao cap l Hl.out Hf.out).mono ?_
        rintro e w9 ⟨rfl, rfl⟩
        go_wp2_with fail
        refine (begun_calls most 3 hm0' (by omega) (by decide) (by decide) W (keep W) H0.out).mono ?_
        rintro e w1 ⟨⟨lb, mb, cb, rfl, HL⟩, R1⟩
        have T1 : ThingsM w1 lb mb cb most 3 ⟨[], [], ⟨fun _ => none, ⟨#[]⟩⟩⟩ 0 (keep W) := ⟨[], 0, rfl, chain_nil _, by simp, Nat.le_refl _, HL.perm (by show _ = emp * _; rw [emp_sep])⟩
        have T2 := Lib.hid (Things.alloc T1 (tO lb mb cb))
        have R2 := Ran.new R1 (tO lb mb cb)
        obtain ⟨w2, hw2⟩ : ∃ w2, w2 = w1.alloc (tO lb mb cb) := ⟨_, rfl⟩
        obtain ⟨tb, htb⟩ : ∃ b, b = w1.heap.size := ⟨_, rfl⟩
        rw [← hw2, ← htb] at T2
        rw [← hw2] at R2
        obtain ⟨c0, c1, c2⟩ := Things.cells T2.out
        unfold thingsV
        clear H0 HL T1 R1
        go_upto_region 4 with fail
        rw [← hw2, ← htb]
        clear hw2 htb
        go_wp2_with fail
        clear c0 c1 c2
        go_loopg [7] (l.length) (FRel lb mb cb tb most l W)
        case atStart => exact ⟨0, ⟨[], [], ⟨fun _ => none, ⟨#[]⟩⟩⟩, by omega, rfl, good_start _ _ _ hm0' (by decide) _, T2.out, R2⟩
        case round =>
          clear T2 R2
          obtain ⟨i, m, hg, rfl, hG, HT, HR⟩ := hrel
          have hi0 : (0 : Int) ≤ i := by omega
          by_cases hi : i < l.length
          · have hil : (i : Int) < l.length := by omega
            obtain ⟨f, rfl⟩ : ∃ f, gk = f + 1 := ⟨gk - 1, by omega⟩
            obtain ⟨hop, b, o, rfl, hbW, o0, o1, o2⟩ := Hl.out i hi
            have hsmall : ∀ k ∈ l.map Opr.k, k.size ≤ maxLen := by
              intro k hk
              obtain ⟨x, hx, rfl⟩ := List.mem_map.1 hk
              have := Hf.out.2 x hx
              unfold maxLen; omega
            have hml : l.length ≤ 60 := Hf.out.1
            have hNow := now_calls lb mb cb most 3 m (2 * i) wr _ (by omega) HT (fun ks hks => by obtain ⟨h1, h2⟩ := keys_few hG.now hsmall hks; exact ⟨by rw [List.length_map] at h1; omega, h2⟩)
            have hmk : l[i].k ∈ l.map Opr.k := List.mem_map.2 ⟨_, List.getElem_mem hi, rfl⟩
            obtain ⟨op, hope⟩ : ∃ op, op = l[i] := ⟨_, rfl⟩
            rw [← hope] at hop o0 o1 o2 hmk
            have HopA := Lib.hid (fun (W' : World) (hk : ∀ k, k < W.heap.size → W'.heap[k]? = W.heap[k]?) => (And.intro ((World.cell?_of_block (w := W) (hk b hbW)).trans o0) (And.intro ((World.cell?_of_block (w := W) (hk b hbW)).trans o1) ((World.cell?_of_block (w := W) (hk b hbW)).trans o2)) : W'.cell? ⟨b, o + i * 3, none⟩ = some (.int .i64 op.ask) ∧ W'.cell? ⟨b, o + i * 3 + 1, none⟩ = some (.string op.k) ∧ W'.cell? ⟨b, o + i * 3 + 2, none⟩ = some (.int .i64 op.v)))
            obtain ⟨c0, c1, c2⟩ := Things.cells HT
            have HNow := Lib.hid hNow
            have Hg := Lib.hid hg
            have HG := Lib.hid hG
            have HG2 := Lib.hid (step_good hG op hmk)
            have Hcs := Lib.hid (step_cases most 3 m op)
            have Hop := Lib.hid hop
            have Hsm := Lib.hid hsmall
            clear hNow hg hG hop hmk hope o0 o1 o2 hbW HT hsmall hi
            go_wp2_with fail
            refine HNow.out.mono ?_
            rintro e w3 ⟨⟨p, pc, L, rfl, hL, HT3⟩, R3⟩
            have hLn := (keys_few HG.out.now Hsm.out hL.1).1
            rw [List.length_map, List.length_map] at hLn
            have hLk : ∀ x ∈ L, x.1.size ≤ maxLen := fun x hx => (keys_few HG.out.now Hsm.out hL.1).2 x.1 (List.mem_map.2 ⟨x, hx, rfl⟩)
            have HL := Lib.hid (And.intro hL (And.intro hLn hLk))
            have T4 := Things.alloc HT3 (stO p L.length pc m.s.c)
            have R4 : Ran W (w3.alloc (stO p L.length pc m.s.c)) := Ran.new (Below.trans HR R3) _
            obtain ⟨w4, hw4⟩ : ∃ w4, w4 = w3.alloc (stO p L.length pc m.s.c) := ⟨_, rfl⟩
            obtain ⟨wb, hwb⟩ : ∃ b, b = w3.heap.size := ⟨_, rfl⟩
            rw [← hw4, ← hwb] at T4
            rw [← hw4] at R4
            clear c0 c1 c2
            obtain ⟨c0, c1, c2⟩ := t_cells (pull2 T4.rest)
            obtain ⟨s0, s1, sz⟩ := st_cells T4.rest
            have hmc := Lib.hid (marks_things lb mb cb most 3 m.hist m.ms _ m.s w4 _ T4)
            have hlc := Lib.hid (len_things lb mb cb most 3 m.hist m.ms _ m.s w4 _ T4)
            obtain ⟨o0, o1, o2⟩ := HopA.out w4 (T4.rest.right.right.right.kept)
            have hN := Hg.out
            have hml3 : m.ms.length ≤ 3 := by have := HG.out.marks; omega
            have hdoes := Lib.hid (does_calls lb mb cb most 3 m (2 * i) op w4.drew _ Hop.out (by have := HG.out.len; omega) (by omega) (by omega) (by omega) (Things.drew T4))
            clear hN hml3
            clear hL hLn hLk HT3 R3 HNow T4 Hop
            go_upto_region 10 with fail
            rw [← hw4, ← hwb]
            clear hw4 hwb
            go_wp2_with fail
            refine hmc.out.mono ?_
            rintro e w9 ⟨rfl, rfl⟩
            clear hmc
            go_wp2_with fail
            refine hlc.out.mono ?_
            rintro e w9 ⟨rfl, rfl⟩
            clear hlc
            go_wp2_with fail
            refine Go.Proofs.Ytibgpkcklneloaa.region_plan (S := (fun w' => w'.cell? ⟨tb, 0, none⟩ = some (.pointer (some ⟨lb, 0, none⟩)) ∧ w'.cell? ⟨tb, 1, none⟩ = some (.pointer (some ⟨mb, 0, none⟩)) ∧ w'.cell? ⟨tb, 2, none⟩ = some (.pointer (some ⟨cb, 0, none⟩)) ∧ w'.cell? ⟨b, o + i * 3, none⟩ = some (.int .i64 op.ask) ∧ w'.cell? ⟨b, o + i * 3 + 1, none⟩ = some (.string op.k) ∧ w'.cell? ⟨b, o + i * 3 + 2, none⟩ = some (.int .i64 op.v))) [(0, true), (1, true), (2, true), (3, true), (4, true), (5, false), (6, true), (7, true), (8, true), (9, true), (10, true)] (by kernel_rfl) (by kernel_rfl) (by kernel_rfl) ?_ ?_
            · ((try dsimp only); (first | done | (first | exact ⟨c0, c1, c2, o0, o1, o2⟩ | exact K5)))
            simp only [Go.Proofs.Ytibgpkcklneloaa.planOps, List.map_cons, List.map_nil, List.getElem?_toArray, List.getElem?_cons_zero, List.getElem?_cons_succ]
            repeat (first
              | ((refine Go.Proofs.Ytibgpkcklneloaa.plan_yes (v := ?_) (by rfl) ?_ ?_); rotate_left; (focus (intro w hSw; (try dsimp only at hSw); go_simp; try (with_reducible rfl))); (try simp only [Act.put, List.setIfInBounds_toArray, List.set_cons_zero, List.set_cons_succ]))
              | ((refine Go.Proofs.Ytibgpkcklneloaa.plan_no (by rfl) ?_); (try simp only [Act.put, List.setIfInBounds_toArray, List.set_cons_zero, List.set_cons_succ]))
              | ((refine Go.Proofs.Ytibgpkcklneloaa.plan_step (fun K hK => ?_)); (first | ((go_at_call 17; refine hdoes.out.mono ?_; rintro e w5 ⟨⟨rfl, HT5⟩, R5⟩; obtain ⟨d0, d1, d2⟩ := t_cells (pull2 HT5.rest); have K5 := (And.intro d0 (And.intro d1 (And.intro d2 (HopA.out w5 (HT5.rest.right.right.right.kept))))))) | (go_simp; ((go_at_call 17; refine hdoes.out.mono ?_; rintro e w5 ⟨⟨rfl, HT5⟩, R5⟩; obtain ⟨d0, d1, d2⟩ := t_cells (pull2 HT5.rest); have K5 := (And.intro d0 (And.intro d1 (And.intro d2 (HopA.out w5 (HT5.rest.right.right.right.kept))))))); (try go_wp2_with fail)) | go_simp); (refine hK.out _ _ ?_ (fun hHeld => ?_)); (focus ((try dsimp only); (first | done | (first | exact ⟨c0, c1, c2, o0, o1, o2⟩ | exact K5)))); clear hK K; (try simp only [Act.put, List.setIfInBounds_toArray, List.set_cons_zero, List.set_cons_succ])))
            refine Go.Proofs.Ytibgpkcklneloaa.plan_done ?_
            obtain ⟨r, hr⟩ : ∃ r, r = Undo.step most 3 m op := ⟨_, rfl⟩
            have HG3 := HG2.out
            have Hc2 := Hcs.out
            have HT6 := HT5
            rw [← hr] at HG3 Hc2 HT6
            rw [← hr]
            obtain ⟨⟨n1, n2⟩, m'⟩ := r
            dsimp only at HG3 Hc2 HT6
            dsimp only
            have R5' := Below.trans (Below.drew R4) R5
            have hi2 : 2 * i + 2 = 2 * (i + 1) := by omega
            rw [hi2] at HT6
            have Hidle := Lib.hid (fun hm => HT6.idle hm)
            have HG3 := Lib.hid HG3
            have HT6 := Lib.hid HT6
            clear hr hdoes HT5 R5 K5 HG2 Hcs c0 c1 c2 s0 s1 sz o0 o1 o2 hi2 R4
            have hle : (m'.hist.length : Int) ≤ most := HG3.out.notes
            rcases Hc2 with rfl | ⟨h1, h2, h3⟩ | ⟨h1, h2⟩ | ⟨h1, h2⟩
            · have hlc := Lib.hid (len_things lb mb cb most 3 m'.hist m'.ms _ m'.s w5 _ HT6.out)
              have hmc := Lib.hid (marks_things lb mb cb most 3 m'.hist m'.ms _ m'.s w5 _ HT6.out)
              have hrel : FRel lb mb cb tb most l W f (.int .i64 ((i : Int) + 1)) w5 := ⟨i + 1, m', by have := Hg.out; omega, rfl, HG3.out, HT6.out.drop.drop, R5'⟩
              have Hrel := Lib.hid hrel
              clear hrel
              by_cases hms : m'.ms = []
              · have hb0 : ((m'.ms.length : Int) == 0) = true := by rw [hms]; rfl
                have hh0 : ((m'.hist.length : Int) != 0) = false := by rw [Hidle.out hms]; rfl
                clear hms
                go_wp2_with fail
                refine hlc.out.mono ?_
                rintro e w9 ⟨rfl, rfl⟩
                go_wp2_with fail
                refine hmc.out.mono ?_
                rintro e w9 ⟨rfl, rfl⟩
                go_wp2_with fail
                refine hlc.out.mono ?_
                rintro e w9 ⟨rfl, rfl⟩
                go_wp2_with fail
                go_roundg f
                case measure => exact Nat.lt_succ_self f
                case rel => exact Hrel.out
              · have hb0 : ((m'.ms.length : Int) == 0) = false := by
                  rw [beq_eq_false_iff_ne]; have := List.length_pos_iff.2 hms; omega
                clear hms
                go_wp2_with fail
                refine hlc.out.mono ?_
                rintro e w9 ⟨rfl, rfl⟩
                go_wp2_with fail
                refine hmc.out.mono ?_
                rintro e w9 ⟨rfl, rfl⟩
                go_wp2_with fail
                go_roundg f
                case measure => exact Nat.lt_succ_self f
                case rel => exact Hrel.out
            · simp only [Prod.mk.injEq] at h1
              obtain ⟨⟨rfl, rfl⟩, rfl⟩ := h1
              have hsame := same_calls lb mb cb most 3 m' (2 * (i + 1)) w5 (prArr p pc L) (pts wb (stO p L.length pc m'.s.c) * (pts tb (tO lb mb cb) * keep W)) p pc L (by omega) (fun W' S hs => prAt_arr hs) HL.out.1 (by have := HL.out.2.1; omega) HL.out.2.2 (Things.perm HT6.out (by ac_rfl))
              have Hsame := Lib.hid hsame
              obtain ⟨c0, c1, c2⟩ := t_cells (pull2 HT6.out.rest)
              obtain ⟨s0, s1, sz⟩ := st_cells HT6.out.rest
              have hb1 : ((m'.hist.length : Int) != most) = false := by rw [bne_eq_false_iff_eq]; omega
              have hb0 : ((m'.ms.length : Int) == 0) = false := by rw [beq_eq_false_iff_ne]; have := List.length_pos_iff.2 h2; omega
              have hb2 : ((m'.ms.length : Int) != (m'.ms.length : Int)) = false := by simp
              clear h2 h3
              go_wp2_with fail
              refine Hsame.out.mono ?_
              rintro e w6 ⟨⟨rfl, HT7⟩, R6⟩
              have R7 := Below.trans R5' R6
              clear Hsame c0 c1 c2 s0 s1 sz R6 hsame
              obtain ⟨c0, c1, c2⟩ := t_cells (pull2 HT7.rest)
              have hlc := Lib.hid (len_things lb mb cb most 3 m'.hist m'.ms _ m'.s w6 _ HT7)
              have hmc := Lib.hid (marks_things lb mb cb most 3 m'.hist m'.ms _ m'.s w6 _ HT7)
              have hrel : FRel lb mb cb tb most l W f (.int .i64 ((i : Int) + 1)) w6 := ⟨i + 1, m', by have := Hg.out; omega, rfl, HG3.out, HT7.drop.drop, R7⟩
              have Hrel := Lib.hid hrel
              clear hrel HT7
              go_wp2_with fail
              refine hmc.out.mono ?_
              rintro e w9 ⟨rfl, rfl⟩
              go_wp2_with fail
              refine hlc.out.mono ?_
              rintro e w9 ⟨rfl, rfl⟩
              go_wp2_with fail
              refine hlc.out.mono ?_
              rintro e w9 ⟨rfl, rfl⟩
              go_wp2_with fail
              refine hmc.out.mono ?_
              rintro e w9 ⟨rfl, rfl⟩
              go_wp2_with fail
              go_roundg f
              case measure => exact Nat.lt_succ_self f
              case rel => exact Hrel.out
            · simp only [Prod.mk.injEq] at h1
              obtain ⟨⟨rfl, rfl⟩, rfl⟩ := h1
              have hsame := same_calls lb mb cb most 3 m' (2 * (i + 1)) w5 (prArr p pc L) (pts wb (stO p L.length pc m'.s.c) * (pts tb (tO lb mb cb) * keep W)) p pc L (by omega) (fun W' S hs => prAt_arr hs) HL.out.1 (by have := HL.out.2.1; omega) HL.out.2.2 (Things.perm HT6.out (by ac_rfl))
              have Hsame := Lib.hid hsame
              obtain ⟨c0, c1, c2⟩ := t_cells (pull2 HT6.out.rest)
              obtain ⟨s0, s1, sz⟩ := st_cells HT6.out.rest
              have hb1 : ((m'.ms.length : Int) != 3) = false := by rw [bne_eq_false_iff_eq]; exact h2
              have hb0 : ((m'.ms.length : Int) == 0) = false := by rw [beq_eq_false_iff_ne]; omega
              clear h2
              go_wp2_with fail
              refine Hsame.out.mono ?_
              rintro e w6 ⟨⟨rfl, HT7⟩, R6⟩
              have R7 := Below.trans R5' R6
              clear Hsame c0 c1 c2 s0 s1 sz R6 hsame
              obtain ⟨c0, c1, c2⟩ := t_cells (pull2 HT7.rest)
              have hlc := Lib.hid (len_things lb mb cb most 3 m'.hist m'.ms _ m'.s w6 _ HT7)
              have hmc := Lib.hid (marks_things lb mb cb most 3 m'.hist m'.ms _ m'.s w6 _ HT7)
              have hrel : FRel lb mb cb tb most l W f (.int .i64 ((i : Int) + 1)) w6 := ⟨i + 1, m', by have := Hg.out; omega, rfl, HG3.out, HT7.drop.drop, R7⟩
              have Hrel := Lib.hid hrel
              clear hrel HT7
              go_wp2_with fail
              refine hmc.out.mono ?_
              rintro e w9 ⟨rfl, rfl⟩
              go_wp2_with fail
              refine hlc.out.mono ?_
              rintro e w9 ⟨rfl, rfl⟩
              go_wp2_with fail
              refine hlc.out.mono ?_
              rintro e w9 ⟨rfl, rfl⟩
              go_wp2_with fail
              refine hmc.out.mono ?_
              rintro e w9 ⟨rfl, rfl⟩
              go_wp2_with fail
              go_roundg f
              case measure => exact Nat.lt_succ_self f
              case rel => exact Hrel.out
            · simp only [Prod.mk.injEq] at h1
              obtain ⟨⟨rfl, rfl⟩, rfl⟩ := h1
              have hsame := same_calls lb mb cb most 3 m' (2 * (i + 1)) w5 (prArr p pc L) (pts wb (stO p L.length pc m'.s.c) * (pts tb (tO lb mb cb) * keep W)) p pc L (by omega) (fun W' S hs => prAt_arr hs) HL.out.1 (by have := HL.out.2.1; omega) HL.out.2.2 (Things.perm HT6.out (by ac_rfl))
              have Hsame := Lib.hid hsame
              obtain ⟨c0, c1, c2⟩ := t_cells (pull2 HT6.out.rest)
              obtain ⟨s0, s1, sz⟩ := st_cells HT6.out.rest
              have hb1 : ((m'.ms.length : Int) != 0) = false := by rw [h2]; rfl
              have hb0 : ((m'.ms.length : Int) == 0) = true := by rw [h2]; rfl
              have hh0 : ((m'.hist.length : Int) != 0) = false := by rw [Hidle.out h2]; rfl
              clear h2
              go_wp2_with fail
              refine Hsame.out.mono ?_
              rintro e w6 ⟨⟨rfl, HT7⟩, R6⟩
              have R7 := Below.trans R5' R6
              clear Hsame c0 c1 c2 s0 s1 sz R6 hsame
              obtain ⟨c0, c1, c2⟩ := t_cells (pull2 HT7.rest)
              have hlc := Lib.hid (len_things lb mb cb most 3 m'.hist m'.ms _ m'.s w6 _ HT7)
              have hmc := Lib.hid (marks_things lb mb cb most 3 m'.hist m'.ms _ m'.s w6 _ HT7)
              have hrel : FRel lb mb cb tb most l W f (.int .i64 ((i : Int) + 1)) w6 := ⟨i + 1, m', by have := Hg.out; omega, rfl, HG3.out, HT7.drop.drop, R7⟩
              have Hrel := Lib.hid hrel
              clear hrel HT7
              go_wp2_with fail
              refine hmc.out.mono ?_
              rintro e w9 ⟨rfl, rfl⟩
              go_wp2_with fail
              refine hlc.out.mono ?_
              rintro e w9 ⟨rfl, rfl⟩
              go_wp2_with fail
              refine hlc.out.mono ?_
              rintro e w9 ⟨rfl, rfl⟩
              go_wp2_with fail
              refine hmc.out.mono ?_
              rintro e w9 ⟨rfl, rfl⟩
              go_wp2_with fail
              refine hlc.out.mono ?_
              rintro e w9 ⟨rfl, rfl⟩
              go_wp2_with fail
              go_roundg f
              case measure => exact Nat.lt_succ_self f
              case rel => exact Hrel.out
          · have hil : ¬ ((i : Int) < l.length) := by omega
            have HK := Lib.hid HT.rest.right
            clear HT hG hg
            go_wp2_with fail
            refine (awake_calls wr (keep W) HK.out).mono ?_
            rintro e w3 ⟨⟨rfl, H⟩, b3⟩
            go_wp2_with fail
            go_ret
            exact ⟨rfl, Ran.whole' (Below.trans HR b3) H⟩
  · have H0 := Lib.hid (Sat.start W)
    go_enter Try.func6, Try.ntmps6
    go_wp2_with fail
    refine (few_no W ao cap l hl hf).mono ?_
    rintro e w9 ⟨rfl, rfl⟩
    go_wp2_with fail
    refine (awake_calls W (keep W) H0.out).mono ?_
    rintro e w3 ⟨⟨rfl, H⟩, b3⟩
    go_wp2_with fail
    go_ret
    exact ⟨rfl, Ran.whole' b3 H⟩

set_option maxRecDepth 100000 in
theorem lifted (os : Os) (started : os.Started) (H : Type) (enc : TypeId × Value → H) :
    ReturnsInHanded {} Try.checked os 6 .any (Rows.undoFullSpec.pre6 enc Try.prog Try.f6 Rows.undoFullRow.domain false) (Rows.undoFullSpec.post enc Try.prog Try.f6 false true false false) := by
  refine returnsInHanded_of_change (C := Try.checked) own started (by kernel_rfl) Try.func6
    (ChangeSpec.witness6 (enc := enc) (C := Try.checked) false ⟨#[], #[.slice none 0 0, .int .i64 0], []⟩ 8 (by kernel_rfl) (by kernel_rfl) (by kernel_rfl) (by kernel_rfl)) ?_
  intro W base args ds gs before hval0 hW hcnd _
  have hval : ∀ (j : Nat) t v, Try.f6.params[j]? = some t → args[j]? = some v → Value.okWide Try.prog W .any base t v := hval0
  have hW' := hW
  obtain ⟨p, q, hA0, hV, rfl, hfz, hnd⟩ := hW
  have hA : DataW.TrodAll enc Try.prog W 0 (fun _ => true) true Try.f6.params.toList args.toList ds p := hA0
  rw [Try.params6] at hA hval
  obtain ⟨v0, vs0, d0, ds0, p0, q0, hargs, rfl, rfl, h0, r0⟩ := trodAll_cons hA
  obtain ⟨v1, vs1, d1, ds1, p1, q1, rfl, rfl, rfl, h1, r1⟩ := trodAll_cons r0
  obtain ⟨rfl, rfl, rfl⟩ := trodAll_nil r1
  obtain rfl : args = #[v0, v1] := by cases args; simp_all
  obtain ⟨rfl, rfl⟩ := trodVars_none hV
  have k0 := h0
  have lt0 : ∀ x ∈ p0, x.block < W.heap.size := by obtain ⟨m, hm⟩ := k0; exact DataW.trod_lt m _ _ _ hm
  obtain ⟨ao0, l0, cap0, rfl, w0⟩ := ops_open (hval 0 33 v0 rfl rfl) h0
  obtain ⟨a1, rfl, rfl, rfl, w1⟩ := open_int Try.underlying3 (hval 1 3 v1 rfl rfl) h1
  clear hA0 hval0
  refine (walk ao0 cap0 l0 a1 W w0 (i64_of w1)).mono fun e W' ⟨he, bel⟩ => ?_
  subst he
  exact ⟨_, rfl, _, _, _, [], _, [], hW', trodAll_mk1 (shut_bool Try.underlying4 _), (trodAll_cons_mk (Below.trod laidOut (by kernel_rfl) (of_decide_eq_true (by kernel_rfl)) k0 bel lt0) (trodAll_cons_mk (shut_int Try.underlying3 w1) trodAll_mk0)), rfl, bel.frame _, fun h => by cases h⟩

theorem over : Rows.undoFullRow.holds Try.pinned (OpenSpec.ofChange Rows.undoFullSpec) :=
  OpenClaim.holds_of_wide 6 Try.f6 rfl rfl rfl rfl rfl rfl rfl ⟨rfl, rfl, rfl, rfl, rfl⟩ rfl rfl rfl rfl rfl (by kernel_rfl) Try.func6 (by kernel_rfl)
    (of_decide_eq_true (by kernel_rfl)) (by unfold Func.isWrapper; first | (rw [if_pos (by decide +kernel)]; kernel_rfl) | (rw [if_neg (by decide +kernel)]; exact ⟨rfl, rfl⟩))
    (fun os started H enc _ => lifted os started H enc)

theorem proved : Rows.UndoFullSaid := over
#print axioms proved
end Go.Proofs.Ytibgpkcklneloaa.undoFull
