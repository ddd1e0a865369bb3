/- UndoPlays: what each call answers, and what there is, call by call: the law returns true, for all rows of calls and any bounds. -/
import Derived.Test.YtibgpkcklneloaaUnAB
namespace Go.Proofs.Ytibgpkcklneloaa.undoPlays
open Go.ChangeShapes Go.WideShapes Go.ChangeAt Go.RowKit Go.Proofs.Ytibgpkcklneloaa Go.Proofs.Ytibgpkcklneloaa.Hp Go.Proofs.Ytibgpkcklneloaa.Undo
set_option linter.unusedVariables false
attribute [local go_sem] Oper.semAt_some

def PRel (lb mb cb ab tb : Nat) (most nest : Int) (l : List Opr) (W : World) (g : Nat) (ivv : Value) (wr : World) : Prop :=
  ∃ (i : Nat) (m : Mach) (r : RM), i + g = l.length ∧ ivv = .int .i64 (i : Int) ∧ GoodM most nest (l.map Opr.k) i m ∧ ROk m r ∧ m.ms.length ≤ i ∧ ThingsM wr lb mb cb most nest m (2 * i) (r.all ab most nest m (pts tb (tO lb mb cb) * keep W)) ∧ Ran W wr
theorem ref_cells {w : World} {ab : Nat} {most nest : Int} {m : Mach} {r : RM} {R : Hp} (h : Sat w (r.all ab most nest m R)) (hok : ROk m r) :
    w.cell? ⟨ab, 2, none⟩ = some (.slice r.now.p r.now.L.length r.now.cap) ∧ w.cell? ⟨ab, 3, none⟩ = some (.string m.s.c) ∧ w.cell? ⟨ab, 4, none⟩ = some (.slice r.wp m.ms.length r.wc) ∧ w.cell? ⟨ab, 5, none⟩ = some (.int .i64 (m.hist.length : Int)) := by
  obtain ⟨_, _, a2, a3, a4, a5, _, _⟩ := all_cells h
  refine ⟨a2, by rw [a3, hok.sync.now.c], by rw [a4, hok.sync.len], a5⟩
set_option maxRecDepth 100000 in
set_option maxHeartbeats 8000000 in
theorem walk (ao : Option Addr) (cap : Nat) (l : List Opr) (most nest : Int) (W : World) (hl : OpsAt W ao l) (hq : I64 most) (hq2 : I64 nest) :
    Calls Try.prog 4 #[.slice ao l.length cap, .int .i64 most, .int .i64 nest] W fun e w' => e = .returned (.bool true) ∧ Below W.heap.size W w' := by
  by_cases hf : Few l
  · by_cases hbad : BadN most nest
    · have H0 := Lib.hid (Sat.start W)
      have Hbad := Lib.hid hbad
      clear hbad
      go_enter Try.func4, Try.ntmps4
      go_wp2_with fail
      refine (few_yes W ao cap l hl hf).mono ?_
      rintro e w9 ⟨rfl, rfl⟩
      go_wp2_with fail
      refine (begun_bad most nest Hbad.out W (keep W) H0.out).mono ?_
      rintro e w1 ⟨⟨mb, cb, rfl, HS⟩, R1⟩
      have H2 := HS.alloc (thingsO none (some ⟨mb, 0, none⟩) (some ⟨cb, 0, none⟩))
      have R2 := Ran.new R1 (thingsO none (some ⟨mb, 0, none⟩) (some ⟨cb, 0, none⟩))
      obtain ⟨w2, hw2⟩ : ∃ w2, w2 = w1.alloc (thingsO none (some ⟨mb, 0, none⟩) (some ⟨cb, 0, none⟩)) := ⟨_, rfl⟩
      obtain ⟨tb, htb⟩ : ∃ b, b = w1.heap.size := ⟨_, rfl⟩
      rw [← hw2, ← htb] at H2
      rw [← hw2] at R2
      have t0 : w2.cell? ⟨tb, 0, none⟩ = some (.pointer none) := by rw [cell_at H2.get]; rfl
      have H3 := Lib.hid H2.right
      clear HS H2 R1 H0
      go_upto_region 4 with fail
      rw [← hw2, ← htb]
      clear hw2 htb
      go_wp2_with fail
      refine (rnew_bad most nest Hbad.out w2).mono ?_
      rintro e w9 ⟨rfl, rfl⟩
      go_wp2_with fail
      refine (awake_calls w2 (keep W) H3.out).mono ?_
      rintro e w3 ⟨⟨rfl, H⟩, b3⟩
      go_wp2_with fail
      go_ret
      exact ⟨rfl, Ran.whole' (Below.trans R2 b3) H⟩
    · have h1 : 0 ≤ most := by unfold BadN at hbad; omega
      have h2 : most ≤ 1048576 := by unfold BadN at hbad; omega
      have h3 : 1 ≤ nest := by unfold BadN at hbad; omega
      have h4 : nest ≤ 1024 := by unfold BadN at hbad; omega
      have H0 := Lib.hid (Sat.start W)
      have Hl := Lib.hid hl
      have Hf := Lib.hid hf
      have h60 : (l.length : Int) ≤ 60 := by have := hf.1; omega
      clear hl hf hbad hq hq2
      go_enter Try.func4, Try.ntmps4
      go_wp2_with fail
      refine (few_yes W ao cap l Hl.out Hf.out).mono ?_
      rintro e w9 ⟨rfl, rfl⟩
      go_wp2_with fail
      refine (begun_calls most nest h1 h2 h3 h4 W (keep W) H0.out).mono ?_
      rintro e w1 ⟨⟨lb, mb, cb, rfl, HL⟩, R1⟩
      have T1 : ThingsM w1 lb mb cb most nest ⟨[], [], ⟨fun _ => none, ⟨#[]⟩⟩⟩ 0 (keep W) := ⟨[], 0, rfl, chain_nil _, by simp, Nat.le_refl _, HL.perm (by show _ = emp * _; rw [emp_sep])⟩
      have T2 := Things.alloc T1 (tO lb mb cb)
      have R2 := Ran.new R1 (tO lb mb cb)
      obtain ⟨w2, hw2⟩ : ∃ w2, w2 = w1.alloc (tO lb mb cb) := ⟨_, rfl⟩
      obtain ⟨tb, htb⟩ : ∃ b, b = w1.heap.size := ⟨_, rfl⟩
      rw [← hw2, ← htb] at T2
      rw [← hw2] at R2
      obtain ⟨X, hX, hXb⟩ := Things.opens T2
      have HX := Lib.hid hX
      have HXb := Lib.hid hXb
      unfold thingsV
      clear H0 HL T1 R1 T2 hX hXb
      go_upto_region 4 with fail
      rw [← hw2, ← htb]
      clear hw2 htb
      go_wp2_with fail
      refine (rnew_calls most nest h1 h2 h3 h4 w2 _ HX.out).mono ?_
      rintro e w3 ⟨ab, rfl, HS3, R3⟩
      have T4 : ThingsM w3 lb mb cb most nest ⟨[], [], ⟨fun _ => none, ⟨#[]⟩⟩⟩ 0 (RM.all ⟨⟨none, 0, [], ⟨#[]⟩⟩, [], none, 0, none, 0, [⟨none, 0, [], ⟨#[]⟩⟩]⟩ ab most nest ⟨[], [], ⟨fun _ => none, ⟨#[]⟩⟩⟩ (pts tb (tO lb mb cb) * keep W)) := by
        refine HXb.out w3 _ (HS3.perm ?_)
        unfold RM.all RM.box RM.own
        show pts ab _ * (X * _) = X * (pts ab _ * (arr 51 2 none 0 0 [] * (arr 3 1 none 0 0 [] * ((arr 84 2 none 0 0 [] * emp) * _))))
        rw [arr_nil, arr_nil, arr_nil, emp_sep, emp_sep, emp_sep, emp_sep]
        ac_rfl
      have R4 := Below.trans R2 R3
      have T4 := Lib.hid T4
      obtain ⟨c0, c1, c2⟩ := t_cells ((T4.out.rest).perm (RM.all_pull _ _ _ _ _ _ _))
      clear HS3 HX HXb R2 R3
      go_wp2_with fail
      clear c0 c1 c2
      go_loopg [11] (l.length) (PRel lb mb cb ab tb most nest l W)
      case atStart =>
        refine ⟨0, ⟨[], [], ⟨fun _ => none, ⟨#[]⟩⟩⟩, ⟨⟨none, 0, [], ⟨#[]⟩⟩, [], none, 0, none, 0, [⟨none, 0, [], ⟨#[]⟩⟩]⟩, by omega, rfl, good_start _ _ _ h1 (by omega) _, ⟨⟨⟨⟨⟨List.Pairwise.nil, fun s => ?_⟩, fun x hx => by cases hx⟩, rfl⟩, rfl, fun i h => by simp at h⟩, ⟨_, List.mem_cons_self .., rfl, rfl, rfl⟩, fun x hx => by cases hx⟩, Nat.zero_le _, T4.out, R4⟩
        simp
      case round =>
        clear T4 R4
        obtain ⟨i, m, r, hg, rfl, hG, hok, hml, HT, HR⟩ := hrel
        have hi0 : (0 : Int) ≤ i := by omega
        by_cases hi : i < l.length
        · have hil : (i : Int) < l.length := by omega
          obtain ⟨f, rfl⟩ : ∃ f, gk = f + 1 := ⟨gk - 1, by omega⟩
          obtain ⟨hop, b, o, rfl, hbW, o0, o1, o2⟩ := Hl.out i hi
          have hmk : l[i].k ∈ l.map Opr.k := List.mem_map.2 ⟨_, List.getElem_mem hi, rfl⟩
          have hsmall : ∀ k ∈ l.map Opr.k, k.size ≤ maxLen := by
            intro k hk
            obtain ⟨x, hx, rfl⟩ := List.mem_map.1 hk
            have := Hf.out.2 x hx
            unfold maxLen; omega
          have hl60 : l.length ≤ 60 := Hf.out.1
          obtain ⟨op, hope⟩ : ∃ op, op = l[i] := ⟨_, rfl⟩
          rw [← hope] at hop o0 o1 o2 hmk
          have HopA := Lib.hid (fun (W' : World) (hk : ∀ k, k < W.heap.size → W'.heap[k]? = W.heap[k]?) => (And.intro ((World.cell?_of_block (w := W) (hk b hbW)).trans o0) (And.intro ((World.cell?_of_block (w := W) (hk b hbW)).trans o1) ((World.cell?_of_block (w := W) (hk b hbW)).trans o2)) : W'.cell? ⟨b, o + i * 3, none⟩ = some (.int .i64 op.ask) ∧ W'.cell? ⟨b, o + i * 3 + 1, none⟩ = some (.string op.k) ∧ W'.cell? ⟨b, o + i * 3 + 2, none⟩ = some (.int .i64 op.v)))
          have HR1 := (HT.rest).perm (RM.all_pull _ _ _ _ _ _ _)
          obtain ⟨c0, c1, c2⟩ := t_cells HR1
          have hkp : Sat wr (keep W) := (HR1.right.perm (show _ = r.all ab most nest m (keep W * emp) by rw [sep_emp])).perm (RM.all_pull _ _ _ _ _ _ _) |>.left
          obtain ⟨o0, o1, o2⟩ := HopA.out wr hkp.kept
          have hGl := hG.len
          have hGm := hG.marks
          have hdoes := Lib.hid (does_calls lb mb cb most nest m (2 * i) op wr.drew _ hop (by omega) (by omega) hGm (by omega) (Things.drew HT))
          obtain ⟨hLn, hLk⟩ := keys_few hG.now hsmall hok.sync.now.L.1
          rw [List.length_map, List.length_map] at hLn
          have HAsk := Lib.hid (fun w5 R' (hs : Sat w5 (r.all ab most nest m R')) => asked_calls ab most nest m r op w5 R' hop hok HT.marked (by omega) (by omega) hGm (by omega) (fun x hx => hLk x.1 (List.mem_map.2 ⟨x, hx, rfl⟩)) hs)
          have Hg := Lib.hid hg
          have HG2 := Lib.hid (step_good hG op hmk)
          have Hsm := Lib.hid (step_marks most nest m op)
          have Hml := Lib.hid hml
          have Hsl := Lib.hid hsmall
          have Hop2 := Lib.hid hop.2.1
          have hKeep := Lib.hid (fun (w5 : World) (m2 : Mach) (r2 : RM) (hs : Sat w5 (r2.all ab most nest m2 (pts tb (tO lb mb cb) * keep W))) => (by
            have hs1 := hs.perm (RM.all_pull _ _ _ _ _ _ _)
            have hs2 := hs1.right.perm (show _ = r2.all ab most nest m2 (keep W * emp) by rw [sep_emp])
            have hs3 := (hs2.perm (RM.all_pull _ _ _ _ _ _ _)).left
            obtain ⟨d0, d1, d2⟩ := t_cells hs1
            exact And.intro d0 (And.intro d1 (And.intro d2 (HopA.out w5 hs3.kept))) : w5.cell? ⟨tb, 0, none⟩ = some (.pointer (some ⟨lb, 0, none⟩)) ∧ w5.cell? ⟨tb, 1, none⟩ = some (.pointer (some ⟨mb, 0, none⟩)) ∧ w5.cell? ⟨tb, 2, none⟩ = some (.pointer (some ⟨cb, 0, none⟩)) ∧ w5.cell? ⟨b, o + i * 3, none⟩ = some (.int .i64 op.ask) ∧ w5.cell? ⟨b, o + i * 3 + 1, none⟩ = some (.string op.k) ∧ w5.cell? ⟨b, o + i * 3 + 2, none⟩ = some (.int .i64 op.v)))
          clear hg hG hop hmk hope hbW HT hi hGl hml hGm HR1 hkp hLn hLk hok hsmall HopA
          go_wp2_with fail
          refine Go.Proofs.Ytibgpkcklneloaa.region_plan (S := (fun w' => w'.cell? ⟨tb, 0, none⟩ = some (.pointer (some ⟨lb, 0, none⟩)) ∧ w'.cell? ⟨tb, 1, none⟩ = some (.pointer (some ⟨mb, 0, none⟩)) ∧ w'.cell? ⟨tb, 2, none⟩ = some (.pointer (some ⟨cb, 0, none⟩)) ∧ w'.cell? ⟨b, o + i * 3, none⟩ = some (.int .i64 op.ask) ∧ w'.cell? ⟨b, o + i * 3 + 1, none⟩ = some (.string op.k) ∧ w'.cell? ⟨b, o + i * 3 + 2, none⟩ = some (.int .i64 op.v))) [(0, true), (1, true), (2, true), (3, true), (4, true), (5, false), (6, true), (7, true), (8, true), (9, true), (10, true)] (by kernel_rfl) (by kernel_rfl) (by kernel_rfl) ?_ ?_
          · ((try dsimp only); (first | done | (first | exact ⟨c0, c1, c2, o0, o1, o2⟩ | exact K5)))
          simp only [Go.Proofs.Ytibgpkcklneloaa.planOps, List.map_cons, List.map_nil, List.getElem?_toArray, List.getElem?_cons_zero, List.getElem?_cons_succ]
          repeat (first
            | ((refine Go.Proofs.Ytibgpkcklneloaa.plan_yes (v := ?_) (by rfl) ?_ ?_); rotate_left; (focus (intro w hSw; (try dsimp only at hSw); go_simp; try (with_reducible rfl))); (try simp only [Act.put, List.setIfInBounds_toArray, List.set_cons_zero, List.set_cons_succ]))
            | ((refine Go.Proofs.Ytibgpkcklneloaa.plan_no (by rfl) ?_); (try simp only [Act.put, List.setIfInBounds_toArray, List.set_cons_zero, List.set_cons_succ]))
            | ((refine Go.Proofs.Ytibgpkcklneloaa.plan_step (fun K hK => ?_)); (first | ((go_at_call 17; refine hdoes.out.mono ?_; rintro e w5 ⟨⟨rfl, HT5⟩, R5⟩; have K5 := hKeep.out w5 _ _ HT5.rest)) | (go_simp; ((go_at_call 17; refine hdoes.out.mono ?_; rintro e w5 ⟨⟨rfl, HT5⟩, R5⟩; have K5 := hKeep.out w5 _ _ HT5.rest)); (try go_wp2_with fail)) | go_simp); (refine hK.out _ _ ?_ (fun hHeld => ?_)); (focus ((try dsimp only); (first | done | (first | exact ⟨c0, c1, c2, o0, o1, o2⟩ | exact K5)))); clear hK K; (try simp only [Act.put, List.setIfInBounds_toArray, List.set_cons_zero, List.set_cons_succ])))
          refine Go.Proofs.Ytibgpkcklneloaa.plan_done ?_
          have R5' := Below.trans (Below.drew HR) R5
          obtain ⟨X, hX, hXb⟩ := Things.opens HT5
          have hX2 := hX.perm (show _ = r.all ab most nest m (X * (pts tb (tO lb mb cb) * keep W)) from (RM.all_pull _ _ _ _ _ _ _).symm)
          have Hask := Lib.hid (HAsk.out w5 _ hX2)
          have HXb := Lib.hid hXb
          clear c0 c1 c2 o0 o1 o2
          obtain ⟨c0, c1, c2, o0, o1, o2⟩ := K5
          clear HT5 hX hXb hX2 hdoes HAsk R5
          go_wp2_with fail
          refine Hask.out.mono ?_
          rintro e w6 ⟨⟨rfl, r', hok', hS6⟩, R6⟩
          have R6' := Below.trans R5' R6
          have HT6 := HXb.out w6 _ (hS6.perm (RM.all_pull _ _ _ _ _ _ _))
          clear hS6 HXb Hask R6 R5' c0 c1 c2 o0 o1 o2
          obtain ⟨rs, hr⟩ : ∃ rs, rs = Undo.step most nest m op := ⟨_, rfl⟩
          have HG3 := HG2.out
          have Hsm2 := Hsm.out
          rw [← hr] at HG3 HT6 Hsm2 hok'
          rw [← hr]
          obtain ⟨⟨n1, n2⟩, m'⟩ := rs
          dsimp only at HG3 HT6 Hsm2 hok'
          dsimp only
          have hi2 : 2 * i + 2 = 2 * (i + 1) := by omega
          rw [hi2] at HT6
          obtain ⟨hLn, hLk⟩ := keys_few HG3.now Hsl.out hok'.sync.now.L.1
          rw [List.length_map, List.length_map] at hLn
          obtain ⟨c0, c1, c2, o0, o1, o2⟩ := hKeep.out w6 _ _ HT6.rest
          obtain ⟨a2, a3, a4, a5⟩ := ref_cells HT6.rest hok'
          have hsame := Lib.hid (same_calls lb mb cb most nest m' (2 * (i + 1)) w6.drew (r'.all ab most nest m' emp) (pts tb (tO lb mb cb) * keep W) r'.now.p r'.now.cap r'.now.L (by omega) (fun W' S hs => hok'.reads m'.ms emp W' (r'.box ab most nest m' * S) (hs.perm (by unfold RM.all; ac_rfl))) hok'.sync.now.L (by omega) (fun x hx => hLk x.1 (List.mem_map.2 ⟨x, hx, rfl⟩)) (Things.perm (Things.drew HT6) (by rw [← sep_emp (pts tb (tO lb mb cb) * keep W), RM.all_pull, sep_emp]; ac_rfl)))
          have HG3 := Lib.hid HG3
          have Hok := Lib.hid hok'
          have Hml2 := Lib.hid (show m'.ms.length ≤ i + 1 by have := Hml.out; omega)
          have hLn' := Lib.hid hLn
          clear hr HG2 Hsm Hsm2 hi2 hok' hLn hLk HT6
          go_wp2_with fail
          refine Go.Proofs.Ytibgpkcklneloaa.region_plan (S := (fun w' => (w'.cell? ⟨tb, 0, none⟩ = some (.pointer (some ⟨lb, 0, none⟩)) ∧ w'.cell? ⟨tb, 1, none⟩ = some (.pointer (some ⟨mb, 0, none⟩)) ∧ w'.cell? ⟨tb, 2, none⟩ = some (.pointer (some ⟨cb, 0, none⟩))) ∧ w'.cell? ⟨ab, 2, none⟩ = some (.slice r'.now.p r'.now.L.length r'.now.cap) ∧ w'.cell? ⟨ab, 3, none⟩ = some (.string m'.s.c) ∧ w'.cell? ⟨ab, 4, none⟩ = some (.slice r'.wp m'.ms.length r'.wc) ∧ w'.cell? ⟨ab, 5, none⟩ = some (.int .i64 (m'.hist.length : Int)))) [(0, true), (1, true), (2, true), (3, true), (4, true), (5, true), (6, true), (7, true), (8, true), (9, true), (10, true), (11, true), (12, true), (13, true), (14, false), (15, true), (16, true), (17, true), (18, true), (19, true), (21, true), (22, true), (23, true), (24, true), (25, true), (20, false), (26, true), (27, true), (28, true), (29, true), (30, true), (32, true), (33, true), (34, true), (35, true), (31, false), (36, true), (37, true)] (by kernel_rfl) (by kernel_rfl) (by kernel_rfl) ?_ ?_
          · ((try dsimp only); (first | done | (first | exact ⟨⟨c0, c1, c2⟩, a2, a3, a4, a5⟩ | exact K7)))
          simp only [Go.Proofs.Ytibgpkcklneloaa.planOps, List.map_cons, List.map_nil, List.getElem?_toArray, List.getElem?_cons_zero, List.getElem?_cons_succ]
          repeat (first
            | ((refine Go.Proofs.Ytibgpkcklneloaa.plan_yes (v := ?_) (by rfl) ?_ ?_); rotate_left; (focus (intro w hSw; (try dsimp only at hSw); go_simp; try (with_reducible rfl))); (try simp only [Act.put, List.setIfInBounds_toArray, List.set_cons_zero, List.set_cons_succ]))
            | ((refine Go.Proofs.Ytibgpkcklneloaa.plan_no (by rfl) ?_); (try simp only [Act.put, List.setIfInBounds_toArray, List.set_cons_zero, List.set_cons_succ]))
            | ((refine Go.Proofs.Ytibgpkcklneloaa.plan_step (fun K hK => ?_)); (first | (first | (go_at_call 19; refine hsame.out.mono ?_; rintro e w7 ⟨⟨rfl, HT7⟩, R7⟩; have HT8 := Things.perm HT7 (show _ = r'.all ab most nest m' (pts tb (tO lb mb cb) * keep W) by rw [← sep_emp (pts tb (tO lb mb cb) * keep W), RM.all_pull, sep_emp]; ac_rfl); have K8 := hKeep.out w7 _ _ HT8.rest; have K7 := And.intro (And.intro K8.1 (And.intro K8.2.1 K8.2.2.1)) (ref_cells HT8.rest Hok.out)) | (go_at_call 20; refine (marks_things lb mb cb most nest m'.hist m'.ms _ m'.s _ _ HT8).mono ?_; rintro e w' ⟨rfl, rfl⟩) | (go_at_call 21; refine (len_things lb mb cb most nest m'.hist m'.ms _ m'.s _ _ HT8).mono ?_; rintro e w' ⟨rfl, rfl⟩)) | (go_simp; (first | (go_at_call 19; refine hsame.out.mono ?_; rintro e w7 ⟨⟨rfl, HT7⟩, R7⟩; have HT8 := Things.perm HT7 (show _ = r'.all ab most nest m' (pts tb (tO lb mb cb) * keep W) by rw [← sep_emp (pts tb (tO lb mb cb) * keep W), RM.all_pull, sep_emp]; ac_rfl); have K8 := hKeep.out w7 _ _ HT8.rest; have K7 := And.intro (And.intro K8.1 (And.intro K8.2.1 K8.2.2.1)) (ref_cells HT8.rest Hok.out)) | (go_at_call 20; refine (marks_things lb mb cb most nest m'.hist m'.ms _ m'.s _ _ HT8).mono ?_; rintro e w' ⟨rfl, rfl⟩) | (go_at_call 21; refine (len_things lb mb cb most nest m'.hist m'.ms _ m'.s _ _ HT8).mono ?_; rintro e w' ⟨rfl, rfl⟩)); (try go_wp2_with fail)) | go_simp); (refine hK.out _ _ ?_ (fun hHeld => ?_)); (focus ((try dsimp only); (first | done | (first | exact ⟨⟨c0, c1, c2⟩, a2, a3, a4, a5⟩ | exact K7)))); clear hK K; (try simp only [Act.put, List.setIfInBounds_toArray, List.set_cons_zero, List.set_cons_succ])))
          refine Go.Proofs.Ytibgpkcklneloaa.plan_done ?_
          have R8 := Below.trans R6' (Below.trans (Below.drew (Below.refl 0 w6)) R7)
          clear c0 c1 c2 a2 a3 a4 a5 o0 o1 o2 hsame
          obtain ⟨c0, c1, c2, o0, o1, o2⟩ := K8
          have HT9 := Lib.hid HT8
          have HrG := Lib.hid (rget_m ab most nest m' r' op.k w7.drew _ Hok.out (by have := hLn'.out; omega) Hop2.out ((HT8.rest).drew))
          have HmG := Lib.hid (get_things lb mb cb most nest m'.hist m'.ms _ m'.s op.k w7.drew _ Hop2.out (Things.drew HT8))
          have Hrel := Lib.hid (show PRel lb mb cb ab tb most nest l W f (.int .i64 ((i : Int) + 1)) w7.drew from ⟨i + 1, m', r', by have := Hg.out; omega, rfl, HG3.out, Hok.out, Hml2.out, Things.drew HT8, Below.drew R8⟩)
          clear HT7 HT8 K7 R7 R8
          obtain ⟨gv, hgv⟩ : ∃ v, v = (m'.s.M op.k).getD 0 := ⟨_, rfl⟩
          obtain ⟨gb, hgb⟩ : ∃ v, v = (m'.s.M op.k).isSome := ⟨_, rfl⟩
          rw [← hgv, ← hgb] at HrG HmG
          clear hgv hgb
          go_wp2_with fail
          refine Go.Proofs.Ytibgpkcklneloaa.region_plan (S := (fun w' => w'.cell? ⟨tb, 1, none⟩ = some (.pointer (some ⟨mb, 0, none⟩)) ∧ w'.cell? ⟨b, o + i * 3 + 1, none⟩ = some (.string op.k))) [(0, true), (1, true), (2, true), (3, true), (4, true), (5, true), (6, true), (7, false), (8, true), (9, true), (10, true), (11, true), (12, true)] (by kernel_rfl) (by kernel_rfl) (by kernel_rfl) ?_ ?_
          · ((try dsimp only); (first | done | (exact ⟨c1, o1⟩)))
          simp only [Go.Proofs.Ytibgpkcklneloaa.planOps, List.map_cons, List.map_nil, List.getElem?_toArray, List.getElem?_cons_zero, List.getElem?_cons_succ]
          repeat (first
            | ((refine Go.Proofs.Ytibgpkcklneloaa.plan_yes (v := ?_) (by rfl) ?_ ?_); rotate_left; (focus (intro w hSw; (try dsimp only at hSw); go_simp; try (with_reducible rfl))); (try simp only [Act.put, List.setIfInBounds_toArray, List.set_cons_zero, List.set_cons_succ]))
            | ((refine Go.Proofs.Ytibgpkcklneloaa.plan_no (by rfl) ?_); (try simp only [Act.put, List.setIfInBounds_toArray, List.set_cons_zero, List.set_cons_succ]))
            | ((refine Go.Proofs.Ytibgpkcklneloaa.plan_step (fun K hK => ?_)); (first | ((go_at_call 22; refine HmG.out.mono ?_; rintro e w' ⟨rfl, rfl⟩)) | (go_simp; ((go_at_call 22; refine HmG.out.mono ?_; rintro e w' ⟨rfl, rfl⟩)); (try go_wp2_with fail)) | go_simp); (refine hK.out _ _ ?_ (fun hHeld => ?_)); (focus ((try dsimp only); (first | done | (exact ⟨c1, o1⟩)))); clear hK K; (try simp only [Act.put, List.setIfInBounds_toArray, List.set_cons_zero, List.set_cons_succ])))
          refine Go.Proofs.Ytibgpkcklneloaa.plan_done ?_
          go_wp2_with fail
          refine HrG.out.mono ?_
          rintro e w9 ⟨rfl, rfl⟩
          go_wp2_with fail
          go_roundg f
          case measure => exact Nat.lt_succ_self f
          case rel => exact Hrel.out
        · have hil : ¬ ((i : Int) < l.length) := by omega
          have hkp : Sat wr (keep W) := ((HT.rest.perm (RM.all_pull _ _ _ _ _ _ _)).right.perm (show _ = r.all ab most nest m (keep W * emp) by rw [sep_emp])).perm (RM.all_pull _ _ _ _ _ _ _) |>.left
          have HK := Lib.hid hkp
          clear HT hG hg hok hkp hml
          go_wp2_with fail
          refine (awake_calls wr (keep W) HK.out).mono ?_
          rintro e w3 ⟨⟨rfl, H⟩, b3⟩
          go_wp2_with fail
          go_ret
          exact ⟨rfl, Ran.whole' (Below.trans HR b3) H⟩
  · have H0 := Lib.hid (Sat.start W)
    go_enter Try.func4, Try.ntmps4
    go_wp2_with fail
    refine (few_no W ao cap l hl hf).mono ?_
    rintro e w9 ⟨rfl, rfl⟩
    go_wp2_with fail
    refine (awake_calls W (keep W) H0.out).mono ?_
    rintro e w3 ⟨⟨rfl, H⟩, b3⟩
    go_wp2_with fail
    go_ret
    exact ⟨rfl, Ran.whole' b3 H⟩

set_option maxRecDepth 100000 in
theorem lifted (os : Os) (started : os.Started) (H : Type) (enc : TypeId × Value → H) :
    ReturnsInHanded {} Try.checked os 4 .any (Rows.undoPlaysSpec.pre6 enc Try.prog Try.f4 Rows.undoPlaysRow.domain false) (Rows.undoPlaysSpec.post enc Try.prog Try.f4 false true false false) := by
  refine returnsInHanded_of_change (C := Try.checked) own started (by kernel_rfl) Try.func4
    (ChangeSpec.witness6 (enc := enc) (C := Try.checked) false ⟨#[], #[.slice none 0 0, .int .i64 0, .int .i64 0], []⟩ 8 (by kernel_rfl) (by kernel_rfl) (by kernel_rfl) (by kernel_rfl)) ?_
  intro W base args ds gs before hval0 hW hcnd _
  have hval : ∀ (j : Nat) t v, Try.f4.params[j]? = some t → args[j]? = some v → Value.okWide Try.prog W .any base t v := hval0
  have hW' := hW
  obtain ⟨p, q, hA0, hV, rfl, hfz, hnd⟩ := hW
  have hA : DataW.TrodAll enc Try.prog W 0 (fun _ => true) true Try.f4.params.toList args.toList ds p := hA0
  rw [Try.params4] at hA hval
  obtain ⟨v0, vs0, d0, ds0, p0, q0, hargs, rfl, rfl, h0, r0⟩ := trodAll_cons hA
  obtain ⟨v1, vs1, d1, ds1, p1, q1, rfl, rfl, rfl, h1, r1⟩ := trodAll_cons r0
  obtain ⟨v2, vs2, d2, ds2, p2, q2, rfl, rfl, rfl, h2, r2⟩ := trodAll_cons r1
  obtain ⟨rfl, rfl, rfl⟩ := trodAll_nil r2
  obtain rfl : args = #[v0, v1, v2] := by cases args; simp_all
  obtain ⟨rfl, rfl⟩ := trodVars_none hV
  have k0 := h0
  have lt0 : ∀ x ∈ p0, x.block < W.heap.size := by obtain ⟨m, hm⟩ := k0; exact DataW.trod_lt m _ _ _ hm
  obtain ⟨ao0, l0, cap0, rfl, w0⟩ := ops_open (hval 0 33 v0 rfl rfl) h0
  obtain ⟨a1, rfl, rfl, rfl, w1⟩ := open_int Try.underlying3 (hval 1 3 v1 rfl rfl) h1
  obtain ⟨a2, rfl, rfl, rfl, w2⟩ := open_int Try.underlying3 (hval 2 3 v2 rfl rfl) h2
  clear hA0 hval0
  refine (walk ao0 cap0 l0 a1 a2 W w0 (i64_of w1) (i64_of w2)).mono fun e W' ⟨he, bel⟩ => ?_
  subst he
  exact ⟨_, rfl, _, _, _, [], _, [], hW', trodAll_mk1 (shut_bool Try.underlying4 _), (trodAll_cons_mk (Below.trod laidOut (by kernel_rfl) (of_decide_eq_true (by kernel_rfl)) k0 bel lt0) (trodAll_cons_mk (shut_int Try.underlying3 w1) (trodAll_cons_mk (shut_int Try.underlying3 w2) trodAll_mk0))), rfl, bel.frame _, fun h => by cases h⟩

theorem over : Rows.undoPlaysRow.holds Try.pinned (OpenSpec.ofChange Rows.undoPlaysSpec) :=
  OpenClaim.holds_of_wide 4 Try.f4 rfl rfl rfl rfl rfl rfl rfl ⟨rfl, rfl, rfl, rfl, rfl⟩ rfl rfl rfl rfl rfl (by kernel_rfl) Try.func4 (by kernel_rfl)
    (of_decide_eq_true (by kernel_rfl)) (by unfold Func.isWrapper; first | (rw [if_pos (by decide +kernel)]; kernel_rfl) | (rw [if_neg (by decide +kernel)]; exact ⟨rfl, rfl⟩))
    (fun os started H enc _ => lifted os started H enc)

theorem proved : Rows.UndoPlaysSaid := over
#print axioms proved
end Go.Proofs.Ytibgpkcklneloaa.undoPlays
