/- HandlesMore: what is written with More stands at the end, whatever other handles write; and others write where they stand. (printed by gen_hdmo.py) -/
import Derived.Test.YtljlpkeddbfpaaaGreatDoorHdO
import Derived.Test.YtljlpkeddbfpaaaGreatDoorTie
import Derived.Test.YtljlpkeddbfpaaaGreatDoorCards
import Derived.SevenTiedAt
import Derived.Stop.Joined
namespace Go.Proofs.YtljlpkeddbfpaaaGreatDoor.handlesMore
open Go.ChangeShapes Go.WideShapes Go.ChangeAt Go.RowKit Go.Proofs.YtljlpkeddbfpaaaGreatDoor Go.Proofs.YtljlpkeddbfpaaaGreatDoor.Hp Go.Proofs.YtljlpkeddbfpaaaGreatDoor.Hd Go.ChangeMaps
set_option linter.unusedVariables false
attribute [local go_sem] Oper.semAt_some

theorem fin_true {W w1 w2 : World} (h1 : Ran W w1) (hs : Sat w2 (keep W)) (h2 : Ran w1 w2) : Below W.heap.size W w2 := Ran.whole' (Below.trans h1 h2) hs
theorem read_all (T : ByteArray) (h : T.size ≤ 100) : readB T 0 100 = T := by
  unfold readB
  rw [Nat.min_eq_left (Nat.zero_le _), cut_all, Nat.min_eq_right h, cut_all]
def Rel (b3 tb fb mb bp hm wb : Nat) (l : List ByteArray) (W : World) (g : Nat) (v9 v10 v11 v12 v13 v14 : Value) (wr : World) : Prop :=
  ∃ (i : Nat) (T : ByteArray) (A a1 : Nat) (F : Fs) (h1 x1 h2 x2 : Nat), v11 = .int .i64 (i : Int) ∧ i + g = l.length ∧ v9 = .string T ∧ v10 = .int .i64 (A : Int) ∧ A ≤ T.size ∧ T.size ≤ 5 * i ∧ a1 ≤ 1000 ∧ Mo F b3 T 2 ∧
    Sat wr (fsHp fb mb F * (tabHp tb fb bp hm [((2 : Int), (⟨h2, 1, x2, .file 3 A ⟨false, true, false⟩⟩ : Hn)), ((1 : Int), (⟨h1, 1, x1, .file 3 a1 ⟨false, true, true⟩⟩ : Hn))] 2 * (pts wb (wdO fb bp tb) * keep W))) ∧ Ran W wr
set_option maxRecDepth 100000 in
set_option maxHeartbeats 16000000 in
theorem walk (ao : Option Addr) (cap : Nat) (l : List ByteArray) (W : World) (hl : TextsAt W ao l) :
    Calls Tryz.prog 3 #[.slice ao l.length cap] W fun e w' => e = .returned (.bool true) ∧ Below W.heap.size W w' := by
  have HA := Lib.hid (fun w hw => awake_calls w (keep W) hw)
  have HL := Lib.hid hl
  clear hl
  by_cases h10 : 10 < l.length
  · have h10I : (10 : Int) < l.length := by omega
    go_enter Tryz.func3, Tryz.ntmps3
    have hA := Lib.hid (HA.out W (Sat.start W))
    skip
    go_wp2_with fail
    refine hA.out.mono ?_
    rintro e w9 ⟨⟨rfl, h2⟩, h3⟩
    have h2 := Lib.hid h2
    have h3 := Lib.hid h3
    clear hA
    go_wp2_with fail
    go_ret
    exact ⟨rfl, fin_true (Below.refl 0 W) h2.out h3.out⟩
  have h10I : (l.length : Int) ≤ 10 := by omega
  have HB := Lib.hid (begun_calls W (keep W) (Sat.start W))
  go_enter Tryz.func3, Tryz.ntmps3
  go_wp2_with fail
  refine HB.out.mono ?_
  rintro e w1 ⟨⟨fb, mb, tb, hm, bp, F, rfl, hF, S1⟩, R1⟩
  clear HB
  have hok := hF.ok
  obtain ⟨b3, hx⟩ := hF.n3
  have S2 := S1.alloc (wdO fb bp tb)
  have R2 := Lib.hid (Ran.new R1 (wdO fb bp tb))
  obtain ⟨wb, hwb⟩ : ∃ b, b = w1.heap.size := ⟨_, rfl⟩
  obtain ⟨w2, hw2⟩ : ∃ w2, w2 = w1.alloc (wdO fb bp tb) := ⟨_, rfl⟩
  rw [← hwb, ← hw2] at S2
  rw [← hw2] at R2
  obtain ⟨c0, c1, c2⟩ := wo_cells S2
  have S2 := (S2.perm (show _ = Spill.poolX bp 40 3 4 0 0 0 0 * (fsHp fb mb F * (tabHp tb fb bp hm [] 0 * (pts wb (wdO fb bp tb) * keep W))) by ac_rfl)).right
  have HC := Lib.hid (File_calls tb fb mb bp hm 0 F [] 3 ⟨false, true, true⟩ _ 1 (by unfold I64; omega) hok hx rfl (.inr rfl) free1 (by omega) w2 _ S2)
  have hF1 := holdP_eq hx
  have hx1 : find (holdP F 3).L 3 = some ⟨b3, 2, ⟨#[]⟩, none, 0, 1, 1⟩ := by rw [hF1, find_put F 3 3 _ (by rw [hx]; rfl), if_pos rfl]; rfl
  have hok1 : FsOk (holdP F 3) := by rw [hF1]; exact hok.put (by rw [hx]; rfl) ⟨Nat.zero_le _, Nat.zero_le _, ⟨by show (0 : Int) ≤ 0 + 1; omega, by show (0 : Int) + 1 ≤ 1000000; omega⟩, ⟨by show (0 : Int) ≤ 1; omega, by show (1 : Int) ≤ 1000000; omega⟩⟩
  have hF2 := holdP_eq hx1
  have hM : Mo (holdP (holdP F 3) 3) b3 ⟨#[]⟩ 2 := by
    rw [hF2]
    exact ⟨hok1.put (by rw [hx1]; rfl) ⟨Nat.zero_le _, Nat.zero_le _, ⟨by show (0 : Int) ≤ 1 + 1; omega, by show (1 : Int) + 1 ≤ 1000000; omega⟩, ⟨by show (0 : Int) ≤ 1; omega, by show (1 : Int) ≤ 1000000; omega⟩⟩, by rw [find_put (holdP F 3) 3 3 _ (by rw [hx1]; rfl), if_pos rfl]; rfl, by rw [hF1]; exact hF.used, by rw [hF1]; exact hF.room⟩
  have HM := Lib.hid hM
  have Hok1 := Lib.hid hok1
  have Hx1 := Lib.hid hx1
  clear S1 R1 S2 hok hx hF hF1 hF2 hx1 hok1 hM
  go_upto_region 6 with fail
  rw [← hwb, ← hw2]
  clear hwb hw2
  go_wp2_with fail
  refine HC.out.mono ?_
  rintro e w3 ⟨⟨rfl, h1, x1, S3⟩, R3⟩
  have R3 := Lib.hid (Below.trans R2.out R3)
  clear c0 c1 c2 HC R2
  have S3 : Sat w3 (fsHp fb mb (holdP F 3) * (tabHp tb fb bp hm [((1 : Int), (⟨h1, 1, x1, .file 3 0 ⟨false, true, true⟩⟩ : Hn))] 1 * (pts wb (wdO fb bp tb) * keep W))) := S3
  obtain ⟨c0, c1, c2⟩ := wo_cells (S3.perm (show _ = pts wb (wdO fb bp tb) * (fsHp fb mb (holdP F 3) * (tabHp tb fb bp hm [((1 : Int), (⟨h1, 1, x1, .file 3 0 ⟨false, true, true⟩⟩ : Hn))] 1 * keep W)) by ac_rfl))
  have HC := Lib.hid (File_calls tb fb mb bp hm 1 (holdP F 3) [((1 : Int), (⟨h1, 1, x1, .file 3 0 ⟨false, true, true⟩⟩ : Hn))] 3 ⟨false, true, false⟩ _ 2 (by unfold I64; omega) Hok1.out Hx1.out rfl (.inr rfl) (free2 _) (by omega) w3 _ S3)
  clear S3
  go_wp2_with fail
  refine HC.out.mono ?_
  rintro e w4 ⟨⟨rfl, h2, x2, S4⟩, R4⟩
  have R4 := Lib.hid (Below.trans R3.out R4)
  have S4 : Hid (Sat w4 (fsHp fb mb (holdP (holdP F 3) 3) * (tabHp tb fb bp hm [((2 : Int), (⟨h2, 1, x2, .file 3 0 ⟨false, true, false⟩⟩ : Hn)), ((1 : Int), (⟨h1, 1, x1, .file 3 0 ⟨false, true, true⟩⟩ : Hn))] 2 * (pts wb (wdO fb bp tb) * keep W)))) := Lib.hid S4
  clear c0 c1 c2 HC R3
  go_wp2_with fail
  go_loopg [9, 10, 11, 12, 13, 14] (l.length) (Rel b3 tb fb mb bp hm wb l W)
  case atStart => exact ⟨0, ⟨#[]⟩, 0, 0, _, h1, x1, h2, x2, rfl, by omega, rfl, rfl, Nat.le_refl _, Nat.zero_le _, by omega, HM.out, S4.out, R4.out⟩
  case round =>
    clear S4 R4 HM
    obtain ⟨i, T, A, a1, F, h1, x1, h2, x2, rfl, hgk, rfl, rfl, hAT, hTi, ha1, hM, HSi, HRi⟩ := hrel
    by_cases hlt : i < l.length
    · have hltI : (i : Int) < l.length := by omega
      have hi0 : (0 : Int) ≤ i := by omega
      obtain ⟨x, hxe⟩ : ∃ x, x = l[i] := ⟨_, rfl⟩
      obtain ⟨-, b, o, rfl, hbW, o0⟩ := HL.out i hlt
      rw [← hxe] at o0
      have HopA := Lib.hid (fun (W' : World) (hk : ∀ k, k < W.heap.size → W'.heap[k]? = W.heap[k]?) => ((World.cell?_of_block (w := W) (hk b hbW)).trans o0 : W'.cell? ⟨b, o + i, none⟩ = some (.string x)))
      clear o0
      have o0 := HopA.out wr HSi.right.right.right.kept
      by_cases h5 : 5 < x.size
      · have h5I : (5 : Int) < x.size := by omega
        have HRi := Lib.hid HRi
        have HSi := Lib.hid HSi
        clear hxe hM hbW
        have hA := Lib.hid (HA.out wr HSi.out.right.right.right)
        skip
        go_wp2_with fail
        refine hA.out.mono ?_
        rintro e w9 ⟨⟨rfl, h2⟩, h3⟩
        have h2 := Lib.hid h2
        have h3 := Lib.hid h3
        clear hA
        go_wp2_with fail
        go_ret
        exact ⟨rfl, fin_true HRi.out h2.out h3.out⟩
      have h5I : (x.size : Int) ≤ 5 := by omega
      have h5n : x.size ≤ 5 := by omega
      have hTsz : T.size ≤ 50 := by omega
      have o0d := HopA.out wr.drew HSi.drew.right.right.right.kept
      obtain ⟨c0, c1, c2⟩ := wo_cells (HSi.drew.perm (show _ = pts wb (wdO fb bp tb) * (fsHp fb mb F * (tabHp tb fb bp hm _ 2 * keep W)) by ac_rfl))
      by_cases hev : i % 2 = 0
      · have hm1 : (i : Int).tmod 2 = 0 := by rw [show (i : Int).tmod 2 = ((i % 2 : Nat) : Int) from rfl, hev]; rfl
        have hm2 : (i : Int) % 2 = 0 := by omega
        have hmw := mo_write hM ⟨by omega, by omega⟩ (a := T.size) (Nat.le_refl _) (d := x) (by omega)
        rw [now_end] at hmw
        have HW := TWrite_file tb fb mb bp hm 2 F [((2 : Int), (⟨h2, 1, x2, .file 3 A ⟨false, true, false⟩⟩ : Hn)), ((1 : Int), (⟨h1, 1, x1, .file 3 a1 ⟨false, true, true⟩⟩ : Hn))] 1 3 ⟨h1, 1, x1, .file 3 a1 ⟨false, true, true⟩⟩ a1 ⟨false, true, true⟩ (⟨b3, 2, T, none, 0, 1, 2⟩ : Nd) x (by unfold I64; omega) rfl rfl rfl (by unfold I64; omega) (by omega) (by omega) hM.ok hM.at3 rfl rfl (by rw [hM.used]; omega) (by rw [hM.room]; omega) wr.drew _ HSi.drew
        rw [show atW (⟨b3, 2, T, none, 0, 1, 2⟩ : Nd) a1 ⟨false, true, true⟩ = T.size from rfl] at HW
        rw [hmw.1] at HW
        obtain ⟨F2, hF2⟩ : ∃ F2, F2 = (writeP F 3 (⟨b3, 2, T, none, 0, 1, 2⟩ : Nd) T.size x).2 := ⟨_, rfl⟩
        rw [← hF2] at HW hmw
        obtain ⟨a2, ha2⟩ : ∃ a2, a2 = atN F 3 (⟨b3, 2, T, none, 0, 1, 2⟩ : Nd) a1 ⟨false, true, true⟩ x := ⟨_, rfl⟩
        rw [← ha2] at HW
        have Ha2 : Hid (a2 ≤ 1000) := Lib.hid (by
          rw [ha2]; unfold atN
          rw [show atW (⟨b3, 2, T, none, 0, 1, 2⟩ : Nd) a1 ⟨false, true, true⟩ = T.size from rfl]
          split <;> omega)
        obtain ⟨T2, hT2⟩ : ∃ T2, T2 = T ++ x := ⟨_, rfl⟩
        rw [← hT2] at hmw
        have hadd : ∀ W : World, (Op.stringOp .add T x).run Tryz.prog W = .ok (.string T2) W := fun W => by rw [hT2]; exact run_string_add_sum (P := Tryz.prog) W _ _ (by omega)
        have HT2 : Hid (T2.size ≤ 5 * (i + 1)) := Lib.hid (by rw [hT2, ByteArray.size_append]; omega)
        have HAA : Hid (A ≤ T2.size) := Lib.hid (by rw [hT2, ByteArray.size_append]; omega)
        have hM2 := Lib.hid hmw.2
        have HW := Lib.hid HW
        have HRi := Lib.hid HRi
        clear hxe hM hbW HSi hF2 ha2 hT2 hmw h5 h5n hTi hAT ha1 hTsz
        go_upto_region 17 with fail
        refine Go.Proofs.YtljlpkeddbfpaaaGreatDoor.region_plan (S := (fun w' => w'.cell? ⟨wb, 2, none⟩ = some (pp tb) ∧ w'.cell? ⟨b, o + i, none⟩ = some (.string x))) [(0, true), (1, true), (2, true), (3, true), (4, true), (5, true), (6, true), (7, false), (8, true)] (by kernel_rfl) (by kernel_rfl) (by kernel_rfl) ?_ ?_
        · ((try dsimp only); (first | done | (first | exact ⟨c2, o0d⟩ | exact K5)))
        simp only [Go.Proofs.YtljlpkeddbfpaaaGreatDoor.planOps, List.map_cons, List.map_nil, List.getElem?_toArray, List.getElem?_cons_zero, List.getElem?_cons_succ]
        repeat (first
          | ((refine Go.Proofs.YtljlpkeddbfpaaaGreatDoor.plan_yes (v := ?_) (by rfl) ?_ ?_); rotate_left; (focus (intro w hSw; (try dsimp only at hSw); go_simp; try (with_reducible rfl))); (try simp only [Act.put, List.setIfInBounds_toArray, List.set_cons_zero, List.set_cons_succ]))
          | ((refine Go.Proofs.YtljlpkeddbfpaaaGreatDoor.plan_no (by rfl) ?_); (try simp only [Act.put, List.setIfInBounds_toArray, List.set_cons_zero, List.set_cons_succ]))
          | ((refine Go.Proofs.YtljlpkeddbfpaaaGreatDoor.plan_step (fun K hK => ?_)); (first | ((go_at_call 11; refine HW.out.mono ?_; rintro e w5 ⟨⟨rfl, S5⟩, R5⟩; have K5 := And.intro (wo_cells (S5.perm (show _ = pts wb (wdO fb bp tb) * (fsHp fb mb F2 * (tabHp tb fb bp hm _ 2 * keep W)) by ac_rfl))).2.2 (HopA.out w5 S5.right.right.right.kept))) | (go_simp; ((go_at_call 11; refine HW.out.mono ?_; rintro e w5 ⟨⟨rfl, S5⟩, R5⟩; have K5 := And.intro (wo_cells (S5.perm (show _ = pts wb (wdO fb bp tb) * (fsHp fb mb F2 * (tabHp tb fb bp hm _ 2 * keep W)) by ac_rfl))).2.2 (HopA.out w5 S5.right.right.right.kept))); (try go_wp2_with fail)) | go_simp); (refine hK.out _ _ ?_ (fun hHeld => ?_)); (focus ((try dsimp only); (first | done | (first | exact ⟨c2, o0d⟩ | exact K5)))); clear hK K; (try simp only [Act.put, List.setIfInBounds_toArray, List.set_cons_zero, List.set_cons_succ])))
        refine Go.Proofs.YtljlpkeddbfpaaaGreatDoor.plan_done ?_
        have R5 := Lib.hid (Below.trans (Ran.drewN HRi.out 1) R5)
        have S5 : Sat w5 (fsHp fb mb F2 * (tabHp tb fb bp hm [((2 : Int), (⟨h2, 1, x2, .file 3 A ⟨false, true, false⟩⟩ : Hn)), ((1 : Int), (⟨h1, 1, x1, .file 3 a2 ⟨false, true, true⟩⟩ : Hn))] 2 * (pts wb (wdO fb bp tb) * keep W))) := S5
        clear c0 c1 c2 o0 o0d K5 HW HRi hadd
        have hx3 := hM2.out.at3
        have hT2 := HT2.out
        have HRd := Read_calls fb mb F2 3 0 100 ⟨b3, 2, T2, none, 0, 1, 2⟩ (by unfold I64; omega) (by omega) (by omega) hM2.out.ok hx3 (by show (2 : Int) ≠ 1; decide) w5 _ S5
        rw [show readB (⟨b3, 2, T2, none, 0, 1, 2⟩ : Nd).text 0 100 = T2 from read_all T2 (by omega)] at HRd
        have HRd := Lib.hid HRd
        have cw := (wo_cells (S5.perm (show _ = pts wb (wdO fb bp tb) * (fsHp fb mb F2 * (tabHp tb fb bp hm [((2 : Int), (⟨h2, 1, x2, .file 3 A ⟨false, true, false⟩⟩ : Hn)), ((1 : Int), (⟨h1, 1, x1, .file 3 a2 ⟨false, true, true⟩⟩ : Hn))] 2 * keep W)) by ac_rfl))).1
        clear S5 hx3 hT2
        go_wp2_with fail
        refine HRd.out.mono ?_
        rintro e w6 ⟨⟨rfl, S6⟩, R6⟩
        have R6 := Lib.hid (Below.trans R5.out R6)
        have S6 := Lib.hid S6
        clear HRd R5 cw
        go_wp2_with fail
        go_roundg (gk - 1)
        case rel => exact ⟨i + 1, T2, A, a2, F2, h1, x1, h2, x2, by simp, by omega, rfl, by simp, HAA.out, HT2.out, Ha2.out, hM2.out, S6.out, R6.out⟩
        case measure => omega
      · have hm1 : (i : Int).tmod 2 = 1 := by rw [show (i : Int).tmod 2 = ((i % 2 : Nat) : Int) from rfl, show i % 2 = 1 by omega]; rfl
        have hm2 : (i : Int) % 2 = 1 := by omega
        have hmw := mo_write hM ⟨by omega, by omega⟩ (a := A) hAT (d := x) (by omega)
        have HW := TWrite_file tb fb mb bp hm 2 F [((2 : Int), (⟨h2, 1, x2, .file 3 A ⟨false, true, false⟩⟩ : Hn)), ((1 : Int), (⟨h1, 1, x1, .file 3 a1 ⟨false, true, true⟩⟩ : Hn))] 2 3 ⟨h2, 1, x2, .file 3 A ⟨false, true, false⟩⟩ A ⟨false, true, false⟩ (⟨b3, 2, T, none, 0, 1, 2⟩ : Nd) x (by unfold I64; omega) rfl rfl rfl (by unfold I64; omega) (by omega) (by omega) hM.ok hM.at3 rfl rfl (by rw [hM.used]; omega) (by rw [hM.room]; omega)
        rw [show atW (⟨b3, 2, T, none, 0, 1, 2⟩ : Nd) A ⟨false, true, false⟩ = A from rfl] at HW
        rw [hmw.1, show atN F 3 (⟨b3, 2, T, none, 0, 1, 2⟩ : Nd) A ⟨false, true, false⟩ x = A + x.size by unfold atN; rw [show atW (⟨b3, 2, T, none, 0, 1, 2⟩ : Nd) A ⟨false, true, false⟩ = A from rfl, hmw.1, if_pos rfl]] at HW
        obtain ⟨F2, hF2⟩ : ∃ F2, F2 = (writeP F 3 (⟨b3, 2, T, none, 0, 1, 2⟩ : Nd) A x).2 := ⟨_, rfl⟩
        rw [← hF2] at HW hmw
        have hns := nowB_size T A x hAT
        obtain ⟨T2, hT2⟩ : ∃ T2, T2 = nowB T A x := ⟨_, rfl⟩
        rw [← hT2] at hmw hns
        unfold nowB at hT2
        obtain ⟨N, hN⟩ : ∃ N, N = T.extract 0 A ++ x := ⟨_, rfl⟩
        rw [← hN] at hT2
        have hNs : N.size = A + x.size := by rw [hN, ByteArray.size_append, size_cut T A hAT]
        have hadd1 : ∀ W : World, (Op.stringOp .add (T.extract 0 A) x).run Tryz.prog W = .ok (.string N) W := fun W => by rw [hN]; exact run_string_add_sum (P := Tryz.prog) W _ _ (by rw [size_cut T A hAT]; omega)
        have HT2 : Hid (T2.size ≤ 5 * (i + 1)) := Lib.hid (by omega)
        have HAA : Hid (A + x.size ≤ T2.size) := Lib.hid (by omega)
        have Ha2 : Hid (a1 ≤ 1000) := Lib.hid ha1
        have hM2 := Lib.hid hmw.2
        have HWr := Lib.hid (HW wr.drew.drew _ HSi.drew.drew)
        have o0dd := HopA.out wr.drew.drew HSi.drew.drew.right.right.right.kept
        have c2dd := (wo_cells (HSi.drew.drew.perm (show _ = pts wb (wdO fb bp tb) * (fsHp fb mb F * (tabHp tb fb bp hm _ 2 * keep W)) by ac_rfl))).2.2
        have HRi := Lib.hid HRi
        have hAI : (A : Int) ≤ (T.size : Int) := by omega
        have hA0 : (0 : Int) ≤ (A : Int) := by omega
        have hTI : (T.size : Int) ≤ 50 := by omega
        have hx0 : (0 : Int) ≤ (x.size : Int) := by omega
        have HN := Lib.hid (And.intro hT2 hNs)
        clear hxe hM hbW HSi hF2 hmw HW hns hN hT2 hNs h5 h5n hTi ha1
        obtain ⟨gj, hgj⟩ : ∃ gj, gj = gk := ⟨_, rfl⟩
        go_wp2_with fail
        go_loopg [9] 0 (fun (g : Nat) (v9 : Value) (wr2 : World) => v9 = .string T ∧ wr = wr2)
        case atStart => exact ⟨rfl, rfl⟩
        case round =>
          obtain ⟨rfl, rfl⟩ := hrel
          go_wp2_with fail
          refine Go.Proofs.YtljlpkeddbfpaaaGreatDoor.region_plan (S := (fun w' => w'.cell? ⟨b, o + i, none⟩ = some (.string x))) [(0, true), (1, true), (2, true), (3, true), (4, true), (5, true), (6, true), (7, true), (8, true)] (by kernel_rfl) (by kernel_rfl) (by kernel_rfl) ?_ ?_
          · ((try dsimp only); (first | done | (exact o0d)))
          simp only [Go.Proofs.YtljlpkeddbfpaaaGreatDoor.planOps, List.map_cons, List.map_nil, List.getElem?_toArray, List.getElem?_cons_zero, List.getElem?_cons_succ]
          repeat (first
            | ((refine Go.Proofs.YtljlpkeddbfpaaaGreatDoor.plan_yes (v := ?_) (by rfl) ?_ ?_); rotate_left; (focus (intro w hSw; (try dsimp only at hSw); go_simp; try (with_reducible rfl))); (try simp only [Act.put, List.setIfInBounds_toArray, List.set_cons_zero, List.set_cons_succ]))
            | ((refine Go.Proofs.YtljlpkeddbfpaaaGreatDoor.plan_no (by rfl) ?_); (try simp only [Act.put, List.setIfInBounds_toArray, List.set_cons_zero, List.set_cons_succ]))
            | ((refine Go.Proofs.YtljlpkeddbfpaaaGreatDoor.plan_step (fun K hK => ?_)); (first | (fail) | (go_simp; (fail); (try go_wp2_with fail)) | go_simp); (refine hK.out _ _ ?_ (fun hHeld => ?_)); (focus ((try dsimp only); (first | done | (exact o0d)))); clear hK K; (try simp only [Act.put, List.setIfInBounds_toArray, List.set_cons_zero, List.set_cons_succ])))
          refine Go.Proofs.YtljlpkeddbfpaaaGreatDoor.plan_done ?_
          by_cases hlt2 : N.size < T.size
          · have hlt2I : (N.size : Int) < (T.size : Int) := by omega
            have hN0 : (0 : Int) ≤ (N.size : Int) := by omega
            have hNle : N.size ≤ T.size := by omega
            have hT3 := HN.out.1
            rw [if_pos hlt2] at hT3
            have hadd2 : ∀ W : World, (Op.stringOp .add N (T.extract N.size T.size)).run Tryz.prog W = .ok (.string T2) W := fun W => by rw [hT3]; exact run_string_add_sum (P := Tryz.prog) W _ _ (by rw [ByteArray.size_extract]; omega)
            clear hT3
            go_wp2_with fail
            refine Go.Proofs.YtljlpkeddbfpaaaGreatDoor.region_plan (S := (fun w' => w'.cell? ⟨wb, 2, none⟩ = some (pp tb) ∧ w'.cell? ⟨b, o + i, none⟩ = some (.string x))) [(0, true), (1, true), (2, true), (3, true), (4, true), (5, true), (6, true), (7, false), (8, true)] (by kernel_rfl) (by kernel_rfl) (by kernel_rfl) ?_ ?_
            · ((try dsimp only); (first | done | (first | exact ⟨c2dd, o0dd⟩ | exact K5)))
            simp only [Go.Proofs.YtljlpkeddbfpaaaGreatDoor.planOps, List.map_cons, List.map_nil, List.getElem?_toArray, List.getElem?_cons_zero, List.getElem?_cons_succ]
            repeat (first
              | ((refine Go.Proofs.YtljlpkeddbfpaaaGreatDoor.plan_yes (v := ?_) (by rfl) ?_ ?_); rotate_left; (focus (intro w hSw; (try dsimp only at hSw); go_simp; try (with_reducible rfl))); (try simp only [Act.put, List.setIfInBounds_toArray, List.set_cons_zero, List.set_cons_succ]))
              | ((refine Go.Proofs.YtljlpkeddbfpaaaGreatDoor.plan_no (by rfl) ?_); (try simp only [Act.put, List.setIfInBounds_toArray, List.set_cons_zero, List.set_cons_succ]))
              | ((refine Go.Proofs.YtljlpkeddbfpaaaGreatDoor.plan_step (fun K hK => ?_)); (first | ((go_at_call 11; refine HWr.out.mono ?_; rintro e w5 ⟨⟨rfl, S5⟩, R5⟩; have K5 := And.intro (wo_cells (S5.perm (show _ = pts wb (wdO fb bp tb) * (fsHp fb mb F2 * (tabHp tb fb bp hm _ 2 * keep W)) by ac_rfl))).2.2 (HopA.out w5 S5.right.right.right.kept))) | (go_simp; ((go_at_call 11; refine HWr.out.mono ?_; rintro e w5 ⟨⟨rfl, S5⟩, R5⟩; have K5 := And.intro (wo_cells (S5.perm (show _ = pts wb (wdO fb bp tb) * (fsHp fb mb F2 * (tabHp tb fb bp hm _ 2 * keep W)) by ac_rfl))).2.2 (HopA.out w5 S5.right.right.right.kept))); (try go_wp2_with fail)) | go_simp); (refine hK.out _ _ ?_ (fun hHeld => ?_)); (focus ((try dsimp only); (first | done | (first | exact ⟨c2dd, o0dd⟩ | exact K5)))); clear hK K; (try simp only [Act.put, List.setIfInBounds_toArray, List.set_cons_zero, List.set_cons_succ])))
            refine Go.Proofs.YtljlpkeddbfpaaaGreatDoor.plan_done ?_
            have R5 := Lib.hid (Below.trans (Ran.drewN (Ran.drewN HRi.out 1) 1) R5)
            have S5 : Sat w5 (fsHp fb mb F2 * (tabHp tb fb bp hm [((2 : Int), (⟨h2, 1, x2, .file 3 (A + x.size) ⟨false, true, false⟩⟩ : Hn)), ((1 : Int), (⟨h1, 1, x1, .file 3 a1 ⟨false, true, true⟩⟩ : Hn))] 2 * (pts wb (wdO fb bp tb) * keep W))) := S5
            clear c0 c1 c2 o0 o0d o0dd c2dd K5 HWr HRi hadd1
            have hx3 := hM2.out.at3
            have hT2 := HT2.out
            have HRd := Read_calls fb mb F2 3 0 100 ⟨b3, 2, T2, none, 0, 1, 2⟩ (by unfold I64; omega) (by omega) (by omega) hM2.out.ok hx3 (by show (2 : Int) ≠ 1; decide) w5 _ S5
            rw [show readB (⟨b3, 2, T2, none, 0, 1, 2⟩ : Nd).text 0 100 = T2 from read_all T2 (by omega)] at HRd
            have HRd := Lib.hid HRd
            have cw := (wo_cells (S5.perm (show _ = pts wb (wdO fb bp tb) * (fsHp fb mb F2 * (tabHp tb fb bp hm [((2 : Int), (⟨h2, 1, x2, .file 3 (A + x.size) ⟨false, true, false⟩⟩ : Hn)), ((1 : Int), (⟨h1, 1, x1, .file 3 a1 ⟨false, true, true⟩⟩ : Hn))] 2 * keep W)) by ac_rfl))).1
            clear S5 hx3 hT2
            go_wp2_with fail
            refine HRd.out.mono ?_
            rintro e w6 ⟨⟨rfl, S6⟩, R6⟩
            have R6 := Lib.hid (Below.trans R5.out R6)
            have S6 := Lib.hid S6
            clear HRd R5 cw
            go_wp2_with fail
            go_roundg (gj - 1)
            case rel => exact ⟨i + 1, T2, A + x.size, a1, F2, h1, x1, h2, x2, by simp, by omega, rfl, by simp, HAA.out, HT2.out, Ha2.out, hM2.out, S6.out, R6.out⟩
            case measure => omega
          · have hlt2I : ¬ (N.size : Int) < (T.size : Int) := by omega
            have hT3 := HN.out.1
            rw [if_neg hlt2] at hT3
            have HT3 := Lib.hid hT3
            clear hT3
            go_wp2_with fail
            rw [← HT3.out]
            refine Go.Proofs.YtljlpkeddbfpaaaGreatDoor.region_plan (S := (fun w' => w'.cell? ⟨wb, 2, none⟩ = some (pp tb) ∧ w'.cell? ⟨b, o + i, none⟩ = some (.string x))) [(0, true), (1, true), (2, true), (3, true), (4, true), (5, true), (6, true), (7, false), (8, true)] (by kernel_rfl) (by kernel_rfl) (by kernel_rfl) ?_ ?_
            · ((try dsimp only); (first | done | (first | exact ⟨c2dd, o0dd⟩ | exact K5)))
            simp only [Go.Proofs.YtljlpkeddbfpaaaGreatDoor.planOps, List.map_cons, List.map_nil, List.getElem?_toArray, List.getElem?_cons_zero, List.getElem?_cons_succ]
            repeat (first
              | ((refine Go.Proofs.YtljlpkeddbfpaaaGreatDoor.plan_yes (v := ?_) (by rfl) ?_ ?_); rotate_left; (focus (intro w hSw; (try dsimp only at hSw); go_simp; try (with_reducible rfl))); (try simp only [Act.put, List.setIfInBounds_toArray, List.set_cons_zero, List.set_cons_succ]))
              | ((refine Go.Proofs.YtljlpkeddbfpaaaGreatDoor.plan_no (by rfl) ?_); (try simp only [Act.put, List.setIfInBounds_toArray, List.set_cons_zero, List.set_cons_succ]))
              | ((refine Go.Proofs.YtljlpkeddbfpaaaGreatDoor.plan_step (fun K hK => ?_)); (first | ((go_at_call 11; refine HWr.out.mono ?_; rintro e w5 ⟨⟨rfl, S5⟩, R5⟩; have K5 := And.intro (wo_cells (S5.perm (show _ = pts wb (wdO fb bp tb) * (fsHp fb mb F2 * (tabHp tb fb bp hm _ 2 * keep W)) by ac_rfl))).2.2 (HopA.out w5 S5.right.right.right.kept))) | (go_simp; ((go_at_call 11; refine HWr.out.mono ?_; rintro e w5 ⟨⟨rfl, S5⟩, R5⟩; have K5 := And.intro (wo_cells (S5.perm (show _ = pts wb (wdO fb bp tb) * (fsHp fb mb F2 * (tabHp tb fb bp hm _ 2 * keep W)) by ac_rfl))).2.2 (HopA.out w5 S5.right.right.right.kept))); (try go_wp2_with fail)) | go_simp); (refine hK.out _ _ ?_ (fun hHeld => ?_)); (focus ((try dsimp only); (first | done | (first | exact ⟨c2dd, o0dd⟩ | exact K5)))); clear hK K; (try simp only [Act.put, List.setIfInBounds_toArray, List.set_cons_zero, List.set_cons_succ])))
            refine Go.Proofs.YtljlpkeddbfpaaaGreatDoor.plan_done ?_
            have R5 := Lib.hid (Below.trans (Ran.drewN (Ran.drewN HRi.out 1) 1) R5)
            have S5 : Sat w5 (fsHp fb mb F2 * (tabHp tb fb bp hm [((2 : Int), (⟨h2, 1, x2, .file 3 (A + x.size) ⟨false, true, false⟩⟩ : Hn)), ((1 : Int), (⟨h1, 1, x1, .file 3 a1 ⟨false, true, true⟩⟩ : Hn))] 2 * (pts wb (wdO fb bp tb) * keep W))) := S5
            clear c0 c1 c2 o0 o0d o0dd c2dd K5 HWr HRi hadd1
            have hx3 := hM2.out.at3
            have hT2 := HT2.out
            have HRd := Read_calls fb mb F2 3 0 100 ⟨b3, 2, T2, none, 0, 1, 2⟩ (by unfold I64; omega) (by omega) (by omega) hM2.out.ok hx3 (by show (2 : Int) ≠ 1; decide) w5 _ S5
            rw [show readB (⟨b3, 2, T2, none, 0, 1, 2⟩ : Nd).text 0 100 = T2 from read_all T2 (by omega)] at HRd
            have HRd := Lib.hid HRd
            have cw := (wo_cells (S5.perm (show _ = pts wb (wdO fb bp tb) * (fsHp fb mb F2 * (tabHp tb fb bp hm [((2 : Int), (⟨h2, 1, x2, .file 3 (A + x.size) ⟨false, true, false⟩⟩ : Hn)), ((1 : Int), (⟨h1, 1, x1, .file 3 a1 ⟨false, true, true⟩⟩ : Hn))] 2 * keep W)) by ac_rfl))).1
            clear S5 hx3 hT2
            go_wp2_with fail
            refine HRd.out.mono ?_
            rintro e w6 ⟨⟨rfl, S6⟩, R6⟩
            have R6 := Lib.hid (Below.trans R5.out R6)
            have S6 := Lib.hid S6
            clear HRd R5 cw
            go_wp2_with fail
            go_roundg (gj - 1)
            case rel => exact ⟨i + 1, T2, A + x.size, a1, F2, h1, x1, h2, x2, by simp, by omega, rfl, by simp, HAA.out, HT2.out, Ha2.out, hM2.out, S6.out, R6.out⟩
            case measure => omega
    · have hge : (l.length : Int) ≤ i := by omega
      have HRi := Lib.hid HRi
      have HSi := Lib.hid HSi
      clear hM
      have hA := Lib.hid (HA.out wr HSi.out.right.right.right)
      skip
      go_wp2_with fail
      refine hA.out.mono ?_
      rintro e w9 ⟨⟨rfl, h2⟩, h3⟩
      have h2 := Lib.hid h2
      have h3 := Lib.hid h3
      clear hA
      go_wp2_with fail
      go_ret
      exact ⟨rfl, fin_true HRi.out h2.out h3.out⟩
theorem own : ownKnob Tryz.prog.godebug = none := by kernel_rfl
theorem laidOut : laidOutB Tryz.prog = true := by kernel_rfl

set_option maxRecDepth 100000 in
theorem lifted (os : Os) (started : os.Started) (H : Type) (enc : TypeId × Value → H) :
    ReturnsInHanded {} Tryz.checked os 3 .any (fun w args => (Rows.handlesMoreSpec.pre enc Tryz.prog Tryz.f3 Rows.handlesMoreRow.domain false w args ∧ laidMetH Tryz.prog Rows.handlesMoreRow.laid w) ∧ sizedMet enc Tryz.prog Tryz.f3 (OpenSpec.ofChange Rows.handlesMoreSpec) false w args) (Rows.handlesMoreSpec.post enc Tryz.prog Tryz.f3 false true false false) := by
  refine returnsInHanded_of_change_and (C := Tryz.checked) (X := fun w _ => laidMetH Tryz.prog Rows.handlesMoreRow.laid w) (fun _ _ _ hh h => h.of_heap hh) own started (by kernel_rfl) Tryz.func3
    (ChangeSpec.witness_shaped (enc := enc) (C := Tryz.checked) (os := os) (X := fun w _ => laidMetH Tryz.prog Rows.handlesMoreRow.laid w) false (World.laidAll Tryz.prog os Rows.handlesMoreRow.laid) #[.slice none 0 0] 8 (World.laidAll_os _ _ _)
      (World.shaped_of_ZipB (by kernel_rfl) (by kernel_rfl)) (by kernel_rfl) (by kernel_rfl) (by kernel_rfl)
      (by rw [MakeChecks.laidMetH_plain _ _ _ (by kernel_rfl)]; exact laidMet_laidAll _ (by kernel_rfl) (by kernel_rfl))) ?_
  intro W base args ds gs before hval0 hW hcnd _ hL _
  have hval : ∀ (j : Nat) t v, Tryz.f3.params[j]? = some t → args[j]? = some v → Value.okWide Tryz.prog W .any base t v := hval0
  have hW' := hW
  obtain ⟨p, q, hA0, hV, rfl, hfz, hnd⟩ := hW
  have hA : DataW.TrodAll enc Tryz.prog W 0 (fun _ => true) true Tryz.f3.params.toList args.toList ds p := hA0
  rw [Tryz.params3] at hA hval
  obtain ⟨v0, vs0, d0, ds0, p0, q0, hargs, rfl, rfl, h0, r0⟩ := trodAll_cons hA
  obtain ⟨rfl, rfl, rfl⟩ := trodAll_nil r0
  obtain rfl : args = #[v0] := by cases args; simp_all
  obtain ⟨rfl, rfl⟩ := trodVars_none hV
  have k0 := h0
  have lt0 : ∀ x ∈ p0, x.block < W.heap.size := by obtain ⟨m, hm⟩ := k0; exact DataW.trod_lt m _ _ _ hm
  obtain ⟨ao0, l0, cap0, rfl, w0⟩ := strs_open (hval 0 22 v0 rfl rfl) h0
  clear hA0 hval0
  refine (walk ao0 cap0 l0 W w0).mono fun e W' ⟨he, bel⟩ => ?_
  subst he
  exact ⟨_, rfl, _, _, _, [], _, [], hW', trodAll_mk1 (shut_bool Tryz.underlying4 _), (trodAll_cons_mk (Below.trod laidOut (by kernel_rfl) (of_decide_eq_true (by kernel_rfl)) k0 bel lt0) trodAll_mk0), rfl, bel.frame _, fun h => by cases h⟩

theorem over : Rows.handlesMoreRow.holds Tryz.pinned (OpenSpec.ofChange Rows.handlesMoreSpec) :=
  OpenClaim.holds_of_wide 3 Tryz.f3 rfl rfl rfl rfl rfl rfl rfl ⟨rfl, rfl, rfl, rfl, rfl⟩ rfl rfl rfl rfl rfl (by kernel_rfl) Tryz.func3 (by kernel_rfl)
    (of_decide_eq_true (by kernel_rfl)) (by unfold Func.isWrapper; first | (rw [if_pos (by decide +kernel)]; kernel_rfl) | (rw [if_neg (by decide +kernel)]; exact ⟨rfl, rfl⟩))
    (fun os started H enc _ => lifted os started H enc)

theorem proved : Rows.HandlesMoreCardSaid :=
  Claim7.holds_tied_plain_at .later [] [.data, .pinned] true (true, "66290d1066095200cf14bc365beb6c9a74d9cfc0189b6a14515d91b2027a118d") false over (fun _ h => by cases h) (by kernel_rfl) (fun _ h => by cases h) handlesMore_row_tie rfl ⟨rfl, rfl⟩ (by kernel_rfl) rfl
    (fun f fn hf hfn => by
      obtain rfl : f = 3 := Option.some.inj ((show Tryz.prog.funcNamed "whelk/whelklaw07.HandlesMore" = some 3 by kernel_rfl).symm.trans hf) |>.symm
      obtain rfl : fn = Tryz.f3 := (Option.some.inj (Tryz.func3.symm.trans hfn)).symm
      exact ⟨by kernel_rfl, fun j t ht => by
        rw [Tryz.params3] at ht
        have hm : t ∈ [22] := by simpa using Array.mem_of_getElem? ht
        have hall : ([22].all fun u => !Tryz.prog.wantsStandIn u) = true := by kernel_rfl
        exact (show Tryz.prog.wantsStandIn t = false by simpa using List.all_eq_true.1 hall t hm)⟩)
    (by kernel_rfl)
#print axioms proved
end Go.Proofs.YtljlpkeddbfpaaaGreatDoor.handlesMore
