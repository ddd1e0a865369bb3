/- UndoBack: behind an Undo all is as it was when the last mark was opened: the law returns true, for all rows of calls ahead of the mark and behind it. -/
import Derived.Test.YtibgpkcklneloaaUnV
namespace Go.Proofs.Ytibgpkcklneloaa.undoBack
open Go.ChangeShapes Go.WideShapes Go.ChangeAt Go.RowKit Go.Proofs.Ytibgpkcklneloaa Go.Proofs.Ytibgpkcklneloaa.Hp Go.Proofs.Ytibgpkcklneloaa.Undo
set_option linter.unusedVariables false
attribute [local go_sem] Oper.semAt_some

theorem undo_m (lb mb cb : Nat) (most nest : Int) (m : Mach) (N : Nat) (w : World) (R : Hp) (hne : m.ms ≠ []) (hb : m.hist.length ≤ 1000000) (hms : m.ms.length ≤ 1000000) (hN : N < maxLen) (h : ThingsM w lb mb cb most nest m N R) :
    Calls Try.prog 13 #[.pointer (some ⟨lb, 0, none⟩)] w fun e w' => (e = .returned (.int .i64 0) ∧ ThingsM w' lb mb cb most nest (undoM m) N R) ∧ Ran w w' := by
  have hlast : m.ms = m.ms.dropLast ++ [m.ms.getLastD 0] := by
    rw [show m.ms.getLastD 0 = m.ms.getLast hne by rw [List.getLastD_eq_getLast?, List.getLast?_eq_some_getLast hne]; rfl]
    exact (List.dropLast_concat_getLast hne).symm
  have HT0 : Things w lb mb cb most nest m.hist (m.ms.dropLast ++ [m.ms.getLastD 0]) N m.s R := by have h2 : Things w lb mb cb most nest m.hist m.ms N m.s R := h; rw [hlast] at h2; exact h2
  exact undo_things lb mb cb most nest m.hist m.ms.dropLast (m.ms.getLastD 0) N m.s w R hb (by rw [List.length_dropLast]; omega) hN HT0
/-- What there is ahead of the mark. -/
def ARel (lb mb cb tb : Nat) (l : List Opr) (W : World) (g : Nat) (ivv : Value) (wr : World) : Prop :=
  ∃ (i : Nat) (m : Mach), i + g = l.length ∧ ivv = .int .i64 (i : Int) ∧ GoodM 200 100 (l.map Opr.k) i m ∧ m.ms.length ≤ i ∧ ThingsM wr lb mb cb 200 100 m (2 * i) (pts tb (tO lb mb cb) * keep W) ∧ Ran W wr
/-- Behind it. -/
def BRel (lb mb cb : Nat) (m0 : Mach) (n0 : Nat) (l0 l : List Opr) (F : Hp) (W : World) (g : Nat) (ivv : Value) (wr : World) : Prop :=
  ∃ (i : Nat) (m : Mach) (rest : List Nat), i + g = l.length ∧ ivv = .int .i64 (i : Int) ∧ GoodM 200 100 ((l0 ++ l).map Opr.k) (n0 + i) m ∧ Behind m0 rest m ∧ ThingsM wr lb mb cb 200 100 m (2 * (n0 + i)) F ∧ Ran W wr
def CRel (lb mb cb : Nat) (m0 : Mach) (n : Nat) (ks : List ByteArray) (N : Nat) (F : Hp) (W : World) (g : Nat) (wr : World) : Prop :=
  ∃ (m : Mach) (rest : List Nat), rest.length = g ∧ GoodM 200 100 ks n m ∧ Behind m0 rest m ∧ ThingsM wr lb mb cb 200 100 m N F ∧ Ran W wr
theorem behind_len {m0 m : Mach} {rest : List Nat} (h : Behind m0 rest m) : m.ms.length = m0.ms.length + 1 + rest.length := by rw [h.ms]; simp; omega
theorem behind_ne {m0 m : Mach} {rest : List Nat} (h : Behind m0 rest m) : m.ms ≠ [] := by rw [h.ms]; simp
set_option maxRecDepth 100000 in
set_option maxHeartbeats 8000000 in
theorem walk (ao : Option Addr) (acap : Nat) (la : List Opr) (bo : Option Addr) (bcap : Nat) (l : List Opr) (W : World) (hla : OpsAt W ao la) (hl : OpsAt W bo l) :
    Calls Try.prog 5 #[.slice ao la.length acap, .slice bo l.length bcap] W fun e w' => e = .returned (.bool true) ∧ Below W.heap.size W w' := by
  by_cases hfa : Few la
  · by_cases hf : Few l
    · have H0 := Lib.hid (Sat.start W)
      have Hla := Lib.hid hla
      have Hl := Lib.hid hl
      have Hfa := Lib.hid hfa
      have Hf := Lib.hid hf
      have ha60 : (la.length : Int) ≤ 60 := by have := hfa.1; omega
      have h60 : (l.length : Int) ≤ 60 := by have := hf.1; omega
      clear hl hf hla hfa
      go_enter Try.func5, Try.ntmps5
      go_wp2_with fail
      refine (few_yes W ao acap la Hla.out Hfa.out).mono ?_
      rintro e w9 ⟨rfl, rfl⟩
      go_wp2_with fail
      refine (few_yes W bo bcap l Hl.out Hf.out).mono ?_
      rintro e w9 ⟨rfl, rfl⟩
      go_wp2_with fail
      refine (begun_calls 200 100 (by decide) (by decide) (by decide) (by decide) W (keep W) H0.out).mono ?_
      rintro e w1 ⟨⟨lb, mb, cb, rfl, HL⟩, R1⟩
      have T1 : ThingsM w1 lb mb cb 200 100 ⟨[], [], ⟨fun _ => none, ⟨#[]⟩⟩⟩ 0 (keep W) := ⟨[], 0, rfl, chain_nil _, by simp, Nat.le_refl _, HL.perm (by show _ = emp * _; rw [emp_sep])⟩
      have T2 := Lib.hid (Things.alloc T1 (tO lb mb cb))
      have R2 := Ran.new R1 (tO lb mb cb)
      obtain ⟨w2, hw2⟩ : ∃ w2, w2 = w1.alloc (tO lb mb cb) := ⟨_, rfl⟩
      obtain ⟨tb, htb⟩ : ∃ b, b = w1.heap.size := ⟨_, rfl⟩
      rw [← hw2, ← htb] at T2
      rw [← hw2] at R2
      obtain ⟨c0, c1, c2⟩ := Things.cells T2.out
      unfold thingsV
      clear H0 HL T1 R1
      go_upto_region 4 with fail
      rw [← hw2, ← htb]
      clear hw2 htb
      go_wp2_with fail
      clear c0 c1 c2
      go_loopg [7] (la.length) (ARel lb mb cb tb la W)
      case atStart => exact ⟨0, ⟨[], [], ⟨fun _ => none, ⟨#[]⟩⟩⟩, by omega, rfl, good_start _ _ _ (by decide) (by decide) _, Nat.zero_le _, T2.out, R2⟩
      case round =>
        clear T2 R2
        obtain ⟨i, m, hg, rfl, hG, hml, HT, HR⟩ := hrel
        have hi0 : (0 : Int) ≤ i := by omega
        by_cases hi : i < la.length
        · have hil : (i : Int) < la.length := by omega
          obtain ⟨f, rfl⟩ : ∃ f, gk = f + 1 := ⟨gk - 1, by omega⟩
          obtain ⟨hop, b, o, rfl, hbW, o0, o1, o2⟩ := Hla.out i hi
          have hmk : la[i].k ∈ la.map Opr.k := List.mem_map.2 ⟨_, List.getElem_mem hi, rfl⟩
          obtain ⟨op, hope⟩ : ∃ op, op = la[i] := ⟨_, rfl⟩
          rw [← hope] at hop o0 o1 o2 hmk
          have HopA := Lib.hid (fun (W' : World) (hk : ∀ k, k < W.heap.size → W'.heap[k]? = W.heap[k]?) => (And.intro ((World.cell?_of_block (w := W) (hk b hbW)).trans o0) (And.intro ((World.cell?_of_block (w := W) (hk b hbW)).trans o1) ((World.cell?_of_block (w := W) (hk b hbW)).trans o2)) : W'.cell? ⟨b, o + i * 3, none⟩ = some (.int .i64 op.ask) ∧ W'.cell? ⟨b, o + i * 3 + 1, none⟩ = some (.string op.k) ∧ W'.cell? ⟨b, o + i * 3 + 2, none⟩ = some (.int .i64 op.v)))
          obtain ⟨c0, c1, c2⟩ := Things.cells HT
          obtain ⟨o0, o1, o2⟩ := HopA.out wr (HT.rest.right.kept)
          have hGl := hG.len
          have hdoes := Lib.hid (does_calls lb mb cb 200 100 m (2 * i) op wr.drew _ hop (by omega) (by omega) hG.marks (by omega) (Things.drew HT))
          have Hg := Lib.hid hg
          have HG2 := Lib.hid (step_good hG op hmk)
          have Hsm := Lib.hid (step_marks 200 100 m op)
          have Hml := Lib.hid hml
          clear hg hG hop hmk hope hbW HT hi hGl hml
          go_wp2_with fail
          refine Go.Proofs.Ytibgpkcklneloaa.region_plan (S := (fun w' => w'.cell? ⟨tb, 0, none⟩ = some (.pointer (some ⟨lb, 0, none⟩)) ∧ w'.cell? ⟨tb, 1, none⟩ = some (.pointer (some ⟨mb, 0, none⟩)) ∧ w'.cell? ⟨tb, 2, none⟩ = some (.pointer (some ⟨cb, 0, none⟩)) ∧ w'.cell? ⟨b, o + i * 3, none⟩ = some (.int .i64 op.ask) ∧ w'.cell? ⟨b, o + i * 3 + 1, none⟩ = some (.string op.k) ∧ w'.cell? ⟨b, o + i * 3 + 2, none⟩ = some (.int .i64 op.v))) [(0, true), (1, true), (2, true), (3, true), (4, true), (5, false)] (by kernel_rfl) (by kernel_rfl) (by kernel_rfl) ?_ ?_
          · ((try dsimp only); (first | done | (first | exact ⟨c0, c1, c2, o0, o1, o2⟩ | exact K5)))
          simp only [Go.Proofs.Ytibgpkcklneloaa.planOps, List.map_cons, List.map_nil, List.getElem?_toArray, List.getElem?_cons_zero, List.getElem?_cons_succ]
          repeat (first
            | ((refine Go.Proofs.Ytibgpkcklneloaa.plan_yes (v := ?_) (by rfl) ?_ ?_); rotate_left; (focus (intro w hSw; (try dsimp only at hSw); go_simp; try (with_reducible rfl))); (try simp only [Act.put, List.setIfInBounds_toArray, List.set_cons_zero, List.set_cons_succ]))
            | ((refine Go.Proofs.Ytibgpkcklneloaa.plan_no (by rfl) ?_); (try simp only [Act.put, List.setIfInBounds_toArray, List.set_cons_zero, List.set_cons_succ]))
            | ((refine Go.Proofs.Ytibgpkcklneloaa.plan_step (fun K hK => ?_)); (first | ((go_at_call 17; refine hdoes.out.mono ?_; rintro e w5 ⟨⟨rfl, HT5⟩, R5⟩; obtain ⟨d0, d1, d2⟩ := t_cells HT5.rest; have K5 := (And.intro d0 (And.intro d1 (And.intro d2 (HopA.out w5 (HT5.rest.right.kept))))))) | (go_simp; ((go_at_call 17; refine hdoes.out.mono ?_; rintro e w5 ⟨⟨rfl, HT5⟩, R5⟩; obtain ⟨d0, d1, d2⟩ := t_cells HT5.rest; have K5 := (And.intro d0 (And.intro d1 (And.intro d2 (HopA.out w5 (HT5.rest.right.kept))))))); (try go_wp2_with fail)) | go_simp); (refine hK.out _ _ ?_ (fun hHeld => ?_)); (focus ((try dsimp only); (first | done | (first | exact ⟨c0, c1, c2, o0, o1, o2⟩ | exact K5)))); clear hK K; (try simp only [Act.put, List.setIfInBounds_toArray, List.set_cons_zero, List.set_cons_succ])))
          refine Go.Proofs.Ytibgpkcklneloaa.plan_done ?_
          obtain ⟨r, hr⟩ : ∃ r, r = Undo.step 200 100 m op := ⟨_, rfl⟩
          have HG3 := HG2.out
          have HT6 := HT5
          have Hsm2 := Hsm.out
          rw [← hr] at HG3 HT6 Hsm2
          rw [← hr]
          obtain ⟨⟨n1, n2⟩, m'⟩ := r
          dsimp only at HG3 HT6 Hsm2
          dsimp only
          have R5' := Below.trans (Below.drew HR) R5
          have hi2 : 2 * i + 2 = 2 * (i + 1) := by omega
          rw [hi2] at HT6
          have Hrel := Lib.hid (show ARel lb mb cb tb la W f (.int .i64 ((i : Int) + 1)) w5 from ⟨i + 1, m', by have := Hg.out; omega, rfl, HG3, by have := Hml.out; omega, HT6, R5'⟩)
          clear hr hdoes HT5 R5 K5 HG2 c0 c1 c2 o0 o1 o2 hi2 HG3 HT6 Hsm2 d0 d1 d2
          go_wp2_with fail
          go_roundg f
          case measure => exact Nat.lt_succ_self f
          case rel => exact Hrel.out
        · have hil : ¬ ((i : Int) < la.length) := by omega
          have hin : i = la.length := by omega
          have hml60 : m.ms.length ≤ 60 := by omega
          have hmi : (m.ms.length : Int) ≤ 60 := by omega
          have hG0 := hG
          have hGl := hG.len
          have hsmall : ∀ k ∈ la.map Opr.k, k.size ≤ maxLen := by
            intro k hk
            obtain ⟨x, hx, rfl⟩ := List.mem_map.1 hk
            have := Hfa.out.2 x hx
            unfold maxLen; omega
          have hla60 : la.length ≤ 60 := Hfa.out.1
          have HG := Lib.hid hG
          have Hsm := Lib.hid hsmall
          have Hin := Lib.hid hin
          have HT0 := Lib.hid HT
          obtain ⟨c0, c1, c2⟩ := Things.cells HT
          have hlc := Lib.hid (len_things lb mb cb 200 100 m.hist m.ms _ m.s wr _ HT)
          have hmc := Lib.hid (marks_things lb mb cb 200 100 m.hist m.ms _ m.s wr _ HT)
          have HNow := Lib.hid (now_calls lb mb cb 200 100 m (2 * i) wr _ (by omega) HT (fun ks hks => by obtain ⟨h1, h2⟩ := keys_few hG.now hsmall hks; exact ⟨by rw [List.length_map] at h1; omega, h2⟩))
          have Hidle := Lib.hid (fun hm => HT.idle hm)
          clear hg hG HT hin hi hG0 hGl hsmall hml
          go_wp2_with fail
          refine hmc.out.mono ?_
          rintro e w9 ⟨rfl, rfl⟩
          clear hmc
          go_wp2_with fail
          refine hlc.out.mono ?_
          rintro e w9 ⟨rfl, rfl⟩
          clear hlc
          go_wp2_with fail
          refine HNow.out.mono ?_
          rintro e w3 ⟨⟨p, pc, L, rfl, hL, HT3⟩, R3⟩
          have hLn := (keys_few HG.out.now Hsm.out hL.1).1
          rw [List.length_map, List.length_map] at hLn
          have hLk : ∀ x ∈ L, x.1.size ≤ maxLen := fun x hx => (keys_few HG.out.now Hsm.out hL.1).2 x.1 (List.mem_map.2 ⟨x, hx, rfl⟩)
          have HL := Lib.hid (And.intro hL (And.intro hLn hLk))
          have T4 := Things.alloc HT3 (stO p L.length pc m.s.c)
          have R4 : Ran W (w3.alloc (stO p L.length pc m.s.c)) := Ran.new (Below.trans HR R3) _
          obtain ⟨w4, hw4⟩ : ∃ w4, w4 = w3.alloc (stO p L.length pc m.s.c) := ⟨_, rfl⟩
          obtain ⟨wb, hwb⟩ : ∃ b, b = w3.heap.size := ⟨_, rfl⟩
          rw [← hw4, ← hwb] at T4
          rw [← hw4] at R4
          clear c0 c1 c2
          obtain ⟨c0, c1, c2⟩ := t_cells (pull2 T4.rest)
          obtain ⟨F, hF⟩ : ∃ F, F = pts wb (stO p L.length pc m.s.c) * (prArr p pc L * (pts tb (tO lb mb cb) * keep W)) := ⟨_, rfl⟩
          rw [← hF] at T4
          have hmark := Lib.hid (mark_things lb mb cb 200 100 m.hist m.ms _ m.s w4 F (by omega) (by have := HG.out.notes; omega) (by omega) T4)
          clear hL hLn hLk HT3 R3 HNow T4 HT0
          go_upto_region 13 with fail
          rw [← hw4, ← hwb]
          clear hw4 hwb
          go_wp2_with fail
          refine hmark.out.mono ?_
          rintro e w5 ⟨⟨rfl, HT5⟩, R5⟩
          clear hmark c0 c1 c2
          have R6 := Below.trans R4 R5
          have HT5 := Lib.hid HT5
          clear R4 R5
          go_wp2_with fail
          go_loopg [13] (l.length) (BRel lb mb cb m la.length la l F W)
          case atStart =>
            refine ⟨0, markM m, [], by omega, rfl, ?_, behind_mark m, ?_, R6⟩
            · exact good_mark (HG.out.more (fun k hk => by rw [List.map_append]; exact List.mem_append_left _ hk) (by have := Hin.out; omega)) (by omega)
            · have h5 := HT5.out; rw [Hin.out] at h5; exact h5
          case round =>
            clear HT5 R6
            obtain ⟨j, m1, rs, hg, rfl, hG, hB, HT, HR2⟩ := hrel
            have hj0 : (0 : Int) ≤ j := by omega
            have hF2 := hF
            have HT9 := HT
            rw [hF2] at HT9
            obtain ⟨c0, c1, c2⟩ := t_cells (pull2 HT9.rest)
            have hbl := behind_len hB
            have hG1 := hG.marks
            have hG2 := hG.len
            have hl60 : l.length ≤ 60 := Hf.out.1
            by_cases hj : j < l.length
            · have hjl : (j : Int) < l.length := by omega
              obtain ⟨f, rfl⟩ : ∃ f, gk = f + 1 := ⟨gk - 1, by omega⟩
              obtain ⟨hop, b, o, rfl, hbW, o0, o1, o2⟩ := Hl.out j hj
              have hmk : l[j].k ∈ (la ++ l).map Opr.k := List.mem_map.2 ⟨_, List.mem_append_right _ (List.getElem_mem hj), rfl⟩
              obtain ⟨op, hope⟩ : ∃ op, op = l[j] := ⟨_, rfl⟩
              rw [← hope] at hop o0 o1 o2 hmk
              have HopA := Lib.hid (fun (W' : World) (hk : ∀ k, k < W.heap.size → W'.heap[k]? = W.heap[k]?) => (And.intro ((World.cell?_of_block (w := W) (hk b hbW)).trans o0) (And.intro ((World.cell?_of_block (w := W) (hk b hbW)).trans o1) ((World.cell?_of_block (w := W) (hk b hbW)).trans o2)) : W'.cell? ⟨b, o + j * 3, none⟩ = some (.int .i64 op.ask) ∧ W'.cell? ⟨b, o + j * 3 + 1, none⟩ = some (.string op.k) ∧ W'.cell? ⟨b, o + j * 3 + 2, none⟩ = some (.int .i64 op.v)))
              obtain ⟨o0, o1, o2⟩ := HopA.out wr (HT9.rest.right.right.right.kept)
              have hmc := Lib.hid (marks_things lb mb cb 200 100 m1.hist m1.ms _ m1.s wr _ HT)
              have hdoes := Lib.hid (does_calls lb mb cb 200 100 m1 (2 * (la.length + j)) op wr.drew _ hop (by omega) (by omega) hG.marks (by omega) (Things.drew HT))
              have Hg := Lib.hid hg
              have HG2 := Lib.hid (step_good hG op hmk)
              have HB := Lib.hid hB
              have Hkeep := Lib.hid (show BRel lb mb cb m la.length la l F W f (.int .i64 ((j : Int) + 1)) wr from ⟨j + 1, m1, rs, by omega, rfl, GoodM.more hG (fun k hk => hk) (by omega), hB, HT.more (by omega), HR2⟩)
              have hbeh := Lib.hid (fun (ho : kind op.ask = 1 → rs ≠ []) => behind_step (most := 200) (nest := 100) hB HT.marked op ho)
              have hke := kind_eq op.ask
              have hmain : Hid (∀ (e : Ending) (w5 : World), DoesSays lb mb cb 200 100 (Undo.step 200 100 m1 op) (2 * (la.length + j) + 2) F e w5 → Ran wr.drew w5 → (kind op.ask = 1 → rs ≠ []) → (∃ r : Value, e = .returned r) ∧ (w5.cell? ⟨tb, 0, none⟩ = some (.pointer (some ⟨lb, 0, none⟩)) ∧ w5.cell? ⟨tb, 1, none⟩ = some (.pointer (some ⟨mb, 0, none⟩)) ∧ w5.cell? ⟨tb, 2, none⟩ = some (.pointer (some ⟨cb, 0, none⟩)) ∧ w5.cell? ⟨b, o + j * 3, none⟩ = some (.int .i64 op.ask) ∧ w5.cell? ⟨b, o + j * 3 + 1, none⟩ = some (.string op.k) ∧ w5.cell? ⟨b, o + j * 3 + 2, none⟩ = some (.int .i64 op.v)) ∧ BRel lb mb cb m la.length la l F W f (.int .i64 ((j : Int) + 1)) w5) := Lib.hid (by
                rintro e w5 ⟨rfl, HT5⟩ R5 ho
                obtain ⟨rs2, hb2⟩ := hbeh.out ho
                have HT6 := HT5
                rw [hF2] at HT6
                obtain ⟨d0, d1, d2⟩ := t_cells (pull2 HT6.rest)
                refine ⟨⟨_, rfl⟩, ⟨d0, d1, d2, HopA.out w5 (HT6.rest.right.right.right.kept)⟩, j + 1, _, rs2, by have := Hg.out; omega, rfl, ?_, hb2, ?_, Below.trans (Below.drew HR2) R5⟩
                · exact HG2.out
                · have e2 : 2 * (la.length + j) + 2 = 2 * (la.length + (j + 1)) := by omega
                  rw [e2] at HT5; exact HT5)
              clear hg hG hop hmk hope hbW HT hj HT9 hG1 hG2 hbeh HG2 hF2
              by_cases k1 : kind op.ask = 1
              · have b1 : ((wrap64 (op.ask.tmod 6 + 6)).tmod 6 == 1) = true := by rw [hke, k1]; rfl
                by_cases hr0 : rs = []
                · have hq : ((m1.ms.length : Int) == (m.ms.length : Int) + 1) = true := by rw [beq_iff_eq, hbl, hr0]; simp
                  clear hke k1 hbl hmain hdoes hr0
                  go_wp2_with fail
                  refine hmc.out.mono ?_
                  rintro e w9 ⟨rfl, rfl⟩
                  go_wp2_with fail
                  go_roundg f
                  case measure => exact Nat.lt_succ_self f
                  case rel => exact Hkeep.out
                · have hq : ((m1.ms.length : Int) == (m.ms.length : Int) + 1) = false := by
                    rw [beq_eq_false_iff_ne, hbl]; have := List.length_pos_iff.2 hr0; simp; omega
                  have Hok := Lib.hid (fun (_ : kind op.ask = 1) => hr0)
                  clear hke k1 hbl Hkeep hr0
                  go_wp2_with fail
                  refine hmc.out.mono ?_
                  rintro e w9 ⟨rfl, rfl⟩
                  go_wp2_with fail
                  refine Go.Proofs.Ytibgpkcklneloaa.region_plan (S := (fun w' => w'.cell? ⟨tb, 0, none⟩ = some (.pointer (some ⟨lb, 0, none⟩)) ∧ w'.cell? ⟨tb, 1, none⟩ = some (.pointer (some ⟨mb, 0, none⟩)) ∧ w'.cell? ⟨tb, 2, none⟩ = some (.pointer (some ⟨cb, 0, none⟩)) ∧ w'.cell? ⟨b, o + j * 3, none⟩ = some (.int .i64 op.ask) ∧ w'.cell? ⟨b, o + j * 3 + 1, none⟩ = some (.string op.k) ∧ w'.cell? ⟨b, o + j * 3 + 2, none⟩ = some (.int .i64 op.v))) [(0, true), (1, true), (2, true), (3, true), (4, true), (5, false)] (by kernel_rfl) (by kernel_rfl) (by kernel_rfl) ?_ ?_
                  · ((try dsimp only); (first | done | (first | exact ⟨c0, c1, c2, o0, o1, o2⟩ | exact K5)))
                  simp only [Go.Proofs.Ytibgpkcklneloaa.planOps, List.map_cons, List.map_nil, List.getElem?_toArray, List.getElem?_cons_zero, List.getElem?_cons_succ]
                  repeat (first
                    | ((refine Go.Proofs.Ytibgpkcklneloaa.plan_yes (v := ?_) (by rfl) ?_ ?_); rotate_left; (focus (intro w hSw; (try dsimp only at hSw); go_simp; try (with_reducible rfl))); (try simp only [Act.put, List.setIfInBounds_toArray, List.set_cons_zero, List.set_cons_succ]))
                    | ((refine Go.Proofs.Ytibgpkcklneloaa.plan_no (by rfl) ?_); (try simp only [Act.put, List.setIfInBounds_toArray, List.set_cons_zero, List.set_cons_succ]))
                    | ((refine Go.Proofs.Ytibgpkcklneloaa.plan_step (fun K hK => ?_)); (first | ((go_at_call 17; refine hdoes.out.mono ?_; rintro e w5 ⟨hsays, R5⟩; obtain ⟨⟨rv, rfl⟩, K5, Hrel⟩ := hmain.out e w5 hsays R5 Hok.out)) | (go_simp; ((go_at_call 17; refine hdoes.out.mono ?_; rintro e w5 ⟨hsays, R5⟩; obtain ⟨⟨rv, rfl⟩, K5, Hrel⟩ := hmain.out e w5 hsays R5 Hok.out)); (try go_wp2_with fail)) | go_simp); (refine hK.out _ _ ?_ (fun hHeld => ?_)); (focus ((try dsimp only); (first | done | (first | exact ⟨c0, c1, c2, o0, o1, o2⟩ | exact K5)))); clear hK K; (try simp only [Act.put, List.setIfInBounds_toArray, List.set_cons_zero, List.set_cons_succ])))
                  refine Go.Proofs.Ytibgpkcklneloaa.plan_done ?_
                  have Hrel := Lib.hid Hrel
                  clear hsays hdoes hmain K5 c0 c1 c2 o0 o1 o2 R5
                  go_wp2_with fail
                  go_roundg f
                  case measure => exact Nat.lt_succ_self f
                  case rel => exact Hrel.out
              · have b1 : ((wrap64 (op.ask.tmod 6 + 6)).tmod 6 == 1) = false := by rw [hke, beq_eq_false_iff_ne]; exact k1
                have Hok := Lib.hid (fun (h : kind op.ask = 1) => (absurd h k1 : rs ≠ []))
                clear hke k1 hbl Hkeep
                go_wp2_with fail
                refine Go.Proofs.Ytibgpkcklneloaa.region_plan (S := (fun w' => w'.cell? ⟨tb, 0, none⟩ = some (.pointer (some ⟨lb, 0, none⟩)) ∧ w'.cell? ⟨tb, 1, none⟩ = some (.pointer (some ⟨mb, 0, none⟩)) ∧ w'.cell? ⟨tb, 2, none⟩ = some (.pointer (some ⟨cb, 0, none⟩)) ∧ w'.cell? ⟨b, o + j * 3, none⟩ = some (.int .i64 op.ask) ∧ w'.cell? ⟨b, o + j * 3 + 1, none⟩ = some (.string op.k) ∧ w'.cell? ⟨b, o + j * 3 + 2, none⟩ = some (.int .i64 op.v))) [(0, true), (1, true), (2, true), (3, true), (4, true), (5, false)] (by kernel_rfl) (by kernel_rfl) (by kernel_rfl) ?_ ?_
                · ((try dsimp only); (first | done | (first | exact ⟨c0, c1, c2, o0, o1, o2⟩ | exact K5)))
                simp only [Go.Proofs.Ytibgpkcklneloaa.planOps, List.map_cons, List.map_nil, List.getElem?_toArray, List.getElem?_cons_zero, List.getElem?_cons_succ]
                repeat (first
                  | ((refine Go.Proofs.Ytibgpkcklneloaa.plan_yes (v := ?_) (by rfl) ?_ ?_); rotate_left; (focus (intro w hSw; (try dsimp only at hSw); go_simp; try (with_reducible rfl))); (try simp only [Act.put, List.setIfInBounds_toArray, List.set_cons_zero, List.set_cons_succ]))
                  | ((refine Go.Proofs.Ytibgpkcklneloaa.plan_no (by rfl) ?_); (try simp only [Act.put, List.setIfInBounds_toArray, List.set_cons_zero, List.set_cons_succ]))
                  | ((refine Go.Proofs.Ytibgpkcklneloaa.plan_step (fun K hK => ?_)); (first | ((go_at_call 17; refine hdoes.out.mono ?_; rintro e w5 ⟨hsays, R5⟩; obtain ⟨⟨rv, rfl⟩, K5, Hrel⟩ := hmain.out e w5 hsays R5 Hok.out)) | (go_simp; ((go_at_call 17; refine hdoes.out.mono ?_; rintro e w5 ⟨hsays, R5⟩; obtain ⟨⟨rv, rfl⟩, K5, Hrel⟩ := hmain.out e w5 hsays R5 Hok.out)); (try go_wp2_with fail)) | go_simp); (refine hK.out _ _ ?_ (fun hHeld => ?_)); (focus ((try dsimp only); (first | done | (first | exact ⟨c0, c1, c2, o0, o1, o2⟩ | exact K5)))); clear hK K; (try simp only [Act.put, List.setIfInBounds_toArray, List.set_cons_zero, List.set_cons_succ])))
                refine Go.Proofs.Ytibgpkcklneloaa.plan_done ?_
                have Hrel := Lib.hid Hrel
                clear hsays hdoes hmain K5 c0 c1 c2 o0 o1 o2 R5
                go_wp2_with fail
                go_roundg f
                case measure => exact Nat.lt_succ_self f
                case rel => exact Hrel.out
            · have hjl : ¬ ((j : Int) < l.length) := by omega
              have hjle : j ≤ 60 := by omega
              have HT5 := Lib.hid HT
              have HG5 := Lib.hid hG
              have HB5 := Lib.hid hB
              clear hg hG hB HT HT9 hbl hG1 hG2 hj c0 c1 c2
              go_wp2_with fail
              go_loopg [] (rs.length) (fun (g : Nat) (wr : World) => CRel lb mb cb m (la.length + j) ((la ++ l).map Opr.k) (2 * (la.length + j)) F W g wr)
              case atStart => exact ⟨m1, rs, rfl, HG5.out, HB5.out, HT5.out, HR2⟩
              case round =>
                clear HT5 HG5 HB5 HR2
                obtain ⟨m2, r2, hg, hG, hB, HT, HR3⟩ := hrel
                have HT9 := HT
                rw [hF2] at HT9
                obtain ⟨c0, c1, c2⟩ := t_cells (pull2 HT9.rest)
                have hbl := behind_len hB
                have hG1 := hG.marks
                have hG2 := hG.len
                have hmc := Lib.hid (marks_things lb mb cb 200 100 m2.hist m2.ms _ m2.s wr _ HT)
                have hG4 := hG.notes
                have hun := Lib.hid (undo_m lb mb cb 200 100 m2 _ wr _ (behind_ne hB) (by omega) (by omega) (by unfold maxLen; omega) HT)
                by_cases hr0 : r2 = []
                · subst hr0
                  have hq : ¬ ((m.ms.length : Int) + 1 < (m2.ms.length : Int)) := by rw [hbl]; simp
                  have hback := behind_back hB
                  rw [hback] at hun
                  clear hbl hG1 hG2 hG4 hB hG HT HT9 hg
                  go_wp2_with fail
                  refine hmc.out.mono ?_
                  rintro e w9 ⟨rfl, rfl⟩
                  go_wp2_with fail
                  refine hun.out.mono ?_
                  rintro e w6 ⟨⟨rfl, HT6⟩, R6⟩
                  have R7 := Below.trans HR3 R6
                  rw [hF2] at HT6
                  have HT6 := Things.perm HT6 (show _ = prArr p pc L * (pts wb (stO p L.length pc m.s.c) * (pts tb (tO lb mb cb) * keep W)) by ac_rfl)
                  have hsame := Lib.hid (same_calls lb mb cb 200 100 m _ w6 (prArr p pc L) _ p pc L (by omega) (fun W' S hs => prAt_arr hs) HL.out.1 (by have := HL.out.2.1; omega) HL.out.2.2 HT6)
                  clear c0 c1 c2
                  obtain ⟨c0, c1, c2⟩ := t_cells (pull2 HT6.rest)
                  obtain ⟨s0, s1, sz⟩ := st_cells (pull1 HT6.rest)
                  clear HT6 hmc hun R6 HR3
                  go_wp2_with fail
                  refine hsame.out.mono ?_
                  rintro e w7 ⟨⟨rfl, HT7⟩, R8⟩
                  have R9 := Below.trans R7 R8
                  clear c0 c1 c2 s0 s1 sz hsame R8 R7
                  obtain ⟨c0, c1, c2⟩ := t_cells (pull2 HT7.rest)
                  have hlc := Lib.hid (len_things lb mb cb 200 100 m.hist m.ms _ m.s w7 _ HT7)
                  have hmc := Lib.hid (marks_things lb mb cb 200 100 m.hist m.ms _ m.s w7 _ HT7)
                  have HK := Lib.hid HT7.rest.right.right.right
                  clear HT7
                  by_cases hms : m.ms = []
                  · have hb0 : ¬ (0 : Int) < (m.ms.length : Int) := by rw [hms]; simp
                    have hh0 : ((m.hist.length : Int) == 0) = true := by rw [Hidle.out hms]; rfl
                    have hh1 : m.hist = [] := List.eq_nil_of_length_eq_zero (Hidle.out hms)
                    go_wp2_with fail
                    refine hmc.out.mono ?_
                    rintro e w9 ⟨rfl, rfl⟩
                    go_wp2_with fail
                    refine hlc.out.mono ?_
                    rintro e w9 ⟨rfl, rfl⟩
                    go_wp2_with fail
                    refine (awake_calls w7 (keep W) HK.out).mono ?_
                    rintro e w3 ⟨⟨rfl, H⟩, b3⟩
                    go_wp2_with fail
                    go_ret
                    exact ⟨rfl, Ran.whole' (Below.trans R9 b3) H⟩
                  · have hb0 : (0 : Int) < (m.ms.length : Int) := by have := List.length_pos_iff.2 hms; omega
                    go_wp2_with fail
                    refine hmc.out.mono ?_
                    rintro e w9 ⟨rfl, rfl⟩
                    go_wp2_with fail
                    refine hlc.out.mono ?_
                    rintro e w9 ⟨rfl, rfl⟩
                    go_wp2_with fail
                    refine (awake_calls w7 (keep W) HK.out).mono ?_
                    rintro e w3 ⟨⟨rfl, H⟩, b3⟩
                    go_wp2_with fail
                    go_ret
                    exact ⟨rfl, Ran.whole' (Below.trans R9 b3) H⟩
                · have hq : ((m.ms.length : Int) + 1 < (m2.ms.length : Int)) := by rw [hbl]; have := List.length_pos_iff.2 hr0; omega
                  obtain ⟨f, rfl⟩ : ∃ f, gk = f + 1 := ⟨gk - 1, by have := List.length_pos_iff.2 hr0; omega⟩
                  have hB2 := hB
                  rw [← List.dropLast_concat_getLast hr0] at hB2
                  have hB3 := Lib.hid (behind_undo hB2 HT.marked)
                  have hG3 := Lib.hid (good_undo hG)
                  have hlen : r2.dropLast.length = f := by rw [List.length_dropLast]; omega
                  clear hbl hG1 hG2 hG4 hB hG HT HT9 hB2 hg hr0
                  go_wp2_with fail
                  refine hmc.out.mono ?_
                  rintro e w9 ⟨rfl, rfl⟩
                  go_wp2_with fail
                  refine hun.out.mono ?_
                  rintro e w6 ⟨⟨rfl, HT6⟩, R6⟩
                  have Hrel := Lib.hid (show CRel lb mb cb m (la.length + j) ((la ++ l).map Opr.k) (2 * (la.length + j)) F W f w6 from ⟨undoM m2, r2.dropLast, hlen, hG3.out, hB3.out, HT6, Below.trans HR3 R6⟩)
                  clear HT6 R6 hun hmc c0 c1 c2 hlen
                  go_wp2_with fail
                  go_roundg f
                  case measure => exact Nat.lt_succ_self f
                  case rel => exact Hrel.out
    · have H0 := Lib.hid (Sat.start W)
      go_enter Try.func5, Try.ntmps5
      go_wp2_with fail
      refine (few_yes W ao acap la hla hfa).mono ?_
      rintro e w9 ⟨rfl, rfl⟩
      go_wp2_with fail
      refine (few_no W bo bcap l hl hf).mono ?_
      rintro e w9 ⟨rfl, rfl⟩
      go_wp2_with fail
      refine (awake_calls W (keep W) H0.out).mono ?_
      rintro e w3 ⟨⟨rfl, H⟩, b3⟩
      go_wp2_with fail
      go_ret
      exact ⟨rfl, Ran.whole' b3 H⟩
  · have H0 := Lib.hid (Sat.start W)
    go_enter Try.func5, Try.ntmps5
    go_wp2_with fail
    refine (few_no W ao acap la hla hfa).mono ?_
    rintro e w9 ⟨rfl, rfl⟩
    go_wp2_with fail
    refine (awake_calls W (keep W) H0.out).mono ?_
    rintro e w3 ⟨⟨rfl, H⟩, b3⟩
    go_wp2_with fail
    go_ret
    exact ⟨rfl, Ran.whole' b3 H⟩

set_option maxRecDepth 100000 in
theorem lifted (os : Os) (started : os.Started) (H : Type) (enc : TypeId × Value → H) :
    ReturnsInHanded {} Try.checked os 5 .any (Rows.undoBackSpec.pre6 enc Try.prog Try.f5 Rows.undoBackRow.domain false) (Rows.undoBackSpec.post enc Try.prog Try.f5 false true false false) := by
  refine returnsInHanded_of_change (C := Try.checked) own started (by kernel_rfl) Try.func5
    (ChangeSpec.witness6 (enc := enc) (C := Try.checked) false ⟨#[], #[.slice none 0 0, .slice none 0 0], []⟩ 8 (by kernel_rfl) (by kernel_rfl) (by kernel_rfl) (by kernel_rfl)) ?_
  intro W base args ds gs before hval0 hW hcnd _
  have hval : ∀ (j : Nat) t v, Try.f5.params[j]? = some t → args[j]? = some v → Value.okWide Try.prog W .any base t v := hval0
  have hW' := hW
  obtain ⟨p, q, hA0, hV, rfl, hfz, hnd⟩ := hW
  have hA : DataW.TrodAll enc Try.prog W 0 (fun _ => true) true Try.f5.params.toList args.toList ds p := hA0
  rw [Try.params5] at hA hval
  obtain ⟨v0, vs0, d0, ds0, p0, q0, hargs, rfl, rfl, h0, r0⟩ := trodAll_cons hA
  obtain ⟨v1, vs1, d1, ds1, p1, q1, rfl, rfl, rfl, h1, r1⟩ := trodAll_cons r0
  obtain ⟨rfl, rfl, rfl⟩ := trodAll_nil r1
  obtain rfl : args = #[v0, v1] := by cases args; simp_all
  obtain ⟨rfl, rfl⟩ := trodVars_none hV
  have k0 := h0
  have lt0 : ∀ x ∈ p0, x.block < W.heap.size := by obtain ⟨m, hm⟩ := k0; exact DataW.trod_lt m _ _ _ hm
  obtain ⟨ao0, l0, cap0, rfl, w0⟩ := ops_open (hval 0 33 v0 rfl rfl) h0
  have k1 := h1
  have lt1 : ∀ x ∈ p1, x.block < W.heap.size := by obtain ⟨m, hm⟩ := k1; exact DataW.trod_lt m _ _ _ hm
  obtain ⟨ao1, l1, cap1, rfl, w1⟩ := ops_open (hval 1 33 v1 rfl rfl) h1
  clear hA0 hval0
  refine (walk ao0 cap0 l0 ao1 cap1 l1 W w0 w1).mono fun e W' ⟨he, bel⟩ => ?_
  subst he
  exact ⟨_, rfl, _, _, _, [], _, [], hW', trodAll_mk1 (shut_bool Try.underlying4 _), (trodAll_cons_mk (Below.trod laidOut (by kernel_rfl) (of_decide_eq_true (by kernel_rfl)) k0 bel lt0) (trodAll_cons_mk (Below.trod laidOut (by kernel_rfl) (of_decide_eq_true (by kernel_rfl)) k1 bel lt1) trodAll_mk0)), rfl, bel.frame _, fun h => by cases h⟩

theorem over : Rows.undoBackRow.holds Try.pinned (OpenSpec.ofChange Rows.undoBackSpec) :=
  OpenClaim.holds_of_wide 5 Try.f5 rfl rfl rfl rfl rfl rfl rfl ⟨rfl, rfl, rfl, rfl, rfl⟩ rfl rfl rfl rfl rfl (by kernel_rfl) Try.func5 (by kernel_rfl)
    (of_decide_eq_true (by kernel_rfl)) (by unfold Func.isWrapper; first | (rw [if_pos (by decide +kernel)]; kernel_rfl) | (rw [if_neg (by decide +kernel)]; exact ⟨rfl, rfl⟩))
    (fun os started H enc _ => lifted os started H enc)

theorem proved : Rows.UndoBackSaid := over
#print axioms proved
end Go.Proofs.Ytibgpkcklneloaa.undoBack
