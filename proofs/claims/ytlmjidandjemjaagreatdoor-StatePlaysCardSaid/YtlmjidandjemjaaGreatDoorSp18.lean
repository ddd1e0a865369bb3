/- HandlesPlays, part 18 of 29: the texts StSr, joined by a program. -/
import Derived.Test.YtlmjidandjemjaaGreatDoorSp17
namespace Go.Proofs.YtlmjidandjemjaaGreatDoor.State
open Go.RowKit Go.Proofs.YtlmjidandjemjaaGreatDoor Go.Proofs.YtlmjidandjemjaaGreatDoor.Hp Go.Proofs.YtlmjidandjemjaaGreatDoor.Undo
open Now (optL optS)
set_option linter.unusedVariables false
attribute [local go_sem] Oper.semAt_some

theorem conv_one (W : World) (b : Nat) (x : Int) (n : Nat) (hn : x = n) (h8 : n < 256) (h : W.cell? ⟨b, 0, none⟩ = some (.int .u8 x)) : (convert 129 9 (.slice (some ⟨b, 0, none⟩) 1 1)).run Tryz.prog W = .ok (.string ⟨#[UInt8.ofNat n]⟩) W := by
  have := run_convert_bytes_back (P := Tryz.prog) W 129 9 5 ⟨b, 0, none⟩ 1 [UInt8.ofNat n] Tryz.underlying129 Tryz.underlying5 Tryz.underlying9 (fun j hj => by
    have hj0 : j = 0 := by simp at hj; omega
    subst hj0
    rw [Addr.add_lit, h, hn]
    simp only [List.getElem_cons_zero]
    rw [UInt8.toNat_ofNat', Nat.mod_eq_of_lt h8])
  exact this
set_option maxRecDepth 100000 in
set_option maxHeartbeats 8000000 in
theorem SetOption_off (K : Ctx) (n : Now) (b : UInt8) (w : World) (R : Hp) (hb : b ∈ optL) (ho : OOk n.s.o) (hg : Glob R) (hN : n.N ≤ 1000000) (hms : n.ms.length ≤ 1000000) (h : SAt K w n R) :
    Calls Tryz.prog 34 #[pp K.sb, .int .u8 ((b.toNat : Nat) : Int), .bool false] w (Lays K w R (n.put K.most { n.s with o := ⟨(optS n.s.o.data.toList b false).toArray⟩ })) := by
  have H0 := Lib.hid h
  have HOp := Lib.hid (fun W hW => Options_calls K n W R hW)
  have HRp : Hid (∀ W : World, SAt K W n R → Calls Tryz.prog 95 #[.string n.s.o, .string ⟨#[b]⟩, .string ⟨#[]⟩] W fun e w' => e = .returned (.string ⟨(optS (bs n.s.o) b false).toArray⟩) ∧ Below W.heap.size W w') := Lib.hid fun W hW => by
    obtain ⟨m, hm⟩ := Glob.at hW hg
    exact replace_calls n.s.o b m W ho hb hm
  have HF := Lib.hid (And.intro hN hms)
  obtain ⟨rest, hrest⟩ : ∃ rest : ByteArray, rest = ⟨(optS (bs n.s.o) b false).toArray⟩ := ⟨_, rfl⟩
  rw [← hrest] at HRp
  rw [show (⟨(optS n.s.o.data.toList b false).toArray⟩ : ByteArray) = rest from hrest.symm]
  have hcase := opt_cases hb
  clear h hb ho hg hN hms hrest
  rcases hcase with rfl | rfl | rfl | rfl | rfl | rfl
  · go_enter Tryz.func34, Tryz.ntmps34
    go_wp2_with fail
    have H1 := Lib.hid H0.out.drew
    have H1a := Lib.hid (fun o => H0.out.drew.old o)
    have hcv1 := conv_one ((w.alloc (.cells #[.int .u8 67] 5 (0, 0))).drew) w.heap.size 67 67 rfl (by decide) (by show (w.alloc _).cell? _ = _; rw [cell_at (heap_alloc_new w _)]; rfl)
    rw [show UInt8.ofNat 67 = 67 from rfl] at hcv1
    refine region_tree (S := (fun w' => True)) (.take 0 (.take 2 (.fork 1 (.step 3 (.step 4 (.step 5 (.take 6 (.nil))))) 3 (.fork 1 (.step 4 (.step 5 (.take 6 (.nil)))) 4 (.step 1 (.step 5 (.take 6 (.nil)))))))) (by kernel_rfl) (by kernel_rfl) (by kernel_rfl) ?_ ?_
    · ((try dsimp only); (first | done | (trivial)))
    simp only [Plan.ops, List.getElem?_toArray, List.getElem?_cons_zero, List.getElem?_cons_succ]
    ((first | ((refine tree_yes (v := ?_) (by rfl) ?_ ?_); rotate_left; (focus (intro w hSw; (try dsimp only at hSw); go_simp; try (with_reducible rfl)))) | (refine tree_no (by rfl) ?_)); (try simp only [Act.put, List.setIfInBounds_toArray, List.set_cons_zero, List.set_cons_succ]))
    ((first | ((refine tree_yes (v := ?_) (by rfl) ?_ ?_); rotate_left; (focus (intro w hSw; (try dsimp only at hSw); go_simp; try (with_reducible rfl)))) | (refine tree_no (by rfl) ?_)); (try simp only [Act.put, List.setIfInBounds_toArray, List.set_cons_zero, List.set_cons_succ]))
    refine tree_fork (fun K hK => ?_) (fun K hK => ?_)
    focus
      ((first | (go_simp; (first | (go_at_call 65; (first | (refine (HOp.out _ H1.out).mono ?_) | (refine (HOp.out _ (H1a.out _)).mono ?_)); rintro e w1 ⟨rfl, rfl⟩) | (go_at_call 95; refine (HRp.out _ (H1a.out _)).mono ?_; rintro e w3 ⟨rfl, hB⟩; have HB := Lib.hid hB; clear hB)); (try go_wp2_with fail)) | go_simp); (refine hK.out _ _ ?_ (fun hHeld => ?_)); (focus ((try dsimp only); (first | done | (trivial)))); clear hK K; (try simp only [Act.put, List.setIfInBounds_toArray, List.set_cons_zero, List.set_cons_succ]))
      ((refine tree_step (fun K hK => ?_)); (first | (go_simp; (first | (go_at_call 65; (first | (refine (HOp.out _ H1.out).mono ?_) | (refine (HOp.out _ (H1a.out _)).mono ?_)); rintro e w1 ⟨rfl, rfl⟩) | (go_at_call 95; refine (HRp.out _ (H1a.out _)).mono ?_; rintro e w3 ⟨rfl, hB⟩; have HB := Lib.hid hB; clear hB)); (try go_wp2_with fail)) | go_simp); (refine hK.out _ _ ?_ (fun hHeld => ?_)); (focus ((try dsimp only); (first | done | (trivial)))); clear hK K; (try simp only [Act.put, List.setIfInBounds_toArray, List.set_cons_zero, List.set_cons_succ]))
      ((refine tree_step (fun K hK => ?_)); (first | (go_simp; (first | (go_at_call 65; (first | (refine (HOp.out _ H1.out).mono ?_) | (refine (HOp.out _ (H1a.out _)).mono ?_)); rintro e w1 ⟨rfl, rfl⟩) | (go_at_call 95; refine (HRp.out _ (H1a.out _)).mono ?_; rintro e w3 ⟨rfl, hB⟩; have HB := Lib.hid hB; clear hB)); (try go_wp2_with fail)) | go_simp); (refine hK.out _ _ ?_ (fun hHeld => ?_)); (focus ((try dsimp only); (first | done | (trivial)))); clear hK K; (try simp only [Act.put, List.setIfInBounds_toArray, List.set_cons_zero, List.set_cons_succ]))
      ((refine tree_step (fun K hK => ?_)); (first | (go_simp; (first | (go_at_call 65; (first | (refine (HOp.out _ H1.out).mono ?_) | (refine (HOp.out _ (H1a.out _)).mono ?_)); rintro e w1 ⟨rfl, rfl⟩) | (go_at_call 95; refine (HRp.out _ (H1a.out _)).mono ?_; rintro e w3 ⟨rfl, hB⟩; have HB := Lib.hid hB; clear hB)); (try go_wp2_with fail)) | go_simp); (refine hK.out _ _ ?_ (fun hHeld => ?_)); (focus ((try dsimp only); (first | done | (trivial)))); clear hK K; (try simp only [Act.put, List.setIfInBounds_toArray, List.set_cons_zero, List.set_cons_succ]))
      ((first | ((refine tree_yes (v := ?_) (by rfl) ?_ ?_); rotate_left; (focus (intro w hSw; (try dsimp only at hSw); go_simp; try (with_reducible rfl)))) | (refine tree_no (by rfl) ?_)); (try simp only [Act.put, List.setIfInBounds_toArray, List.set_cons_zero, List.set_cons_succ]))
      refine tree_done ?_
    rotate_left 1
    focus
      ((first | (go_simp; (first | (go_at_call 65; (first | (refine (HOp.out _ H1.out).mono ?_) | (refine (HOp.out _ (H1a.out _)).mono ?_)); rintro e w1 ⟨rfl, rfl⟩) | (go_at_call 95; refine (HRp.out _ (H1a.out _)).mono ?_; rintro e w3 ⟨rfl, hB⟩; have HB := Lib.hid hB; clear hB)); (try go_wp2_with fail)) | go_simp); (refine hK.out _ _ ?_ (fun hHeld => ?_)); (focus ((try dsimp only); (first | done | (trivial)))); clear hK K; (try simp only [Act.put, List.setIfInBounds_toArray, List.set_cons_zero, List.set_cons_succ]))
      refine tree_fork (fun K hK => ?_) (fun K hK => ?_)
      focus
        ((first | (go_simp; (first | (go_at_call 65; (first | (refine (HOp.out _ H1.out).mono ?_) | (refine (HOp.out _ (H1a.out _)).mono ?_)); rintro e w1 ⟨rfl, rfl⟩) | (go_at_call 95; refine (HRp.out _ (H1a.out _)).mono ?_; rintro e w3 ⟨rfl, hB⟩; have HB := Lib.hid hB; clear hB)); (try go_wp2_with fail)) | go_simp); (refine hK.out _ _ ?_ (fun hHeld => ?_)); (focus ((try dsimp only); (first | done | (trivial)))); clear hK K; (try simp only [Act.put, List.setIfInBounds_toArray, List.set_cons_zero, List.set_cons_succ]))
        ((refine tree_step (fun K hK => ?_)); (first | (go_simp; (first | (go_at_call 65; (first | (refine (HOp.out _ H1.out).mono ?_) | (refine (HOp.out _ (H1a.out _)).mono ?_)); rintro e w1 ⟨rfl, rfl⟩) | (go_at_call 95; refine (HRp.out _ (H1a.out _)).mono ?_; rintro e w3 ⟨rfl, hB⟩; have HB := Lib.hid hB; clear hB)); (try go_wp2_with fail)) | go_simp); (refine hK.out _ _ ?_ (fun hHeld => ?_)); (focus ((try dsimp only); (first | done | (trivial)))); clear hK K; (try simp only [Act.put, List.setIfInBounds_toArray, List.set_cons_zero, List.set_cons_succ]))
        ((refine tree_step (fun K hK => ?_)); (first | (go_simp; (first | (go_at_call 65; (first | (refine (HOp.out _ H1.out).mono ?_) | (refine (HOp.out _ (H1a.out _)).mono ?_)); rintro e w1 ⟨rfl, rfl⟩) | (go_at_call 95; refine (HRp.out _ (H1a.out _)).mono ?_; rintro e w3 ⟨rfl, hB⟩; have HB := Lib.hid hB; clear hB)); (try go_wp2_with fail)) | go_simp); (refine hK.out _ _ ?_ (fun hHeld => ?_)); (focus ((try dsimp only); (first | done | (trivial)))); clear hK K; (try simp only [Act.put, List.setIfInBounds_toArray, List.set_cons_zero, List.set_cons_succ]))
        ((first | ((refine tree_yes (v := ?_) (by rfl) ?_ ?_); rotate_left; (focus (intro w hSw; (try dsimp only at hSw); go_simp; try (with_reducible rfl)))) | (refine tree_no (by rfl) ?_)); (try simp only [Act.put, List.setIfInBounds_toArray, List.set_cons_zero, List.set_cons_succ]))
        refine tree_done ?_
      rotate_left 1
      focus
        ((first | (go_simp; (first | (go_at_call 65; (first | (refine (HOp.out _ H1.out).mono ?_) | (refine (HOp.out _ (H1a.out _)).mono ?_)); rintro e w1 ⟨rfl, rfl⟩) | (go_at_call 95; refine (HRp.out _ (H1a.out _)).mono ?_; rintro e w3 ⟨rfl, hB⟩; have HB := Lib.hid hB; clear hB)); (try go_wp2_with fail)) | go_simp); (refine hK.out _ _ ?_ (fun hHeld => ?_)); (focus ((try dsimp only); (first | done | (trivial)))); clear hK K; (try simp only [Act.put, List.setIfInBounds_toArray, List.set_cons_zero, List.set_cons_succ]))
        ((refine tree_step (fun K hK => ?_)); (first | (go_simp; (first | (go_at_call 65; (first | (refine (HOp.out _ H1.out).mono ?_) | (refine (HOp.out _ (H1a.out _)).mono ?_)); rintro e w1 ⟨rfl, rfl⟩) | (go_at_call 95; refine (HRp.out _ (H1a.out _)).mono ?_; rintro e w3 ⟨rfl, hB⟩; have HB := Lib.hid hB; clear hB)); (try go_wp2_with fail)) | go_simp); (refine hK.out _ _ ?_ (fun hHeld => ?_)); (focus ((try dsimp only); (first | done | (trivial)))); clear hK K; (try simp only [Act.put, List.setIfInBounds_toArray, List.set_cons_zero, List.set_cons_succ]))
        ((refine tree_step (fun K hK => ?_)); (first | (go_simp; (first | (go_at_call 65; (first | (refine (HOp.out _ H1.out).mono ?_) | (refine (HOp.out _ (H1a.out _)).mono ?_)); rintro e w1 ⟨rfl, rfl⟩) | (go_at_call 95; refine (HRp.out _ (H1a.out _)).mono ?_; rintro e w3 ⟨rfl, hB⟩; have HB := Lib.hid hB; clear hB)); (try go_wp2_with fail)) | go_simp); (refine hK.out _ _ ?_ (fun hHeld => ?_)); (focus ((try dsimp only); (first | done | (trivial)))); clear hK K; (try simp only [Act.put, List.setIfInBounds_toArray, List.set_cons_zero, List.set_cons_succ]))
        ((first | ((refine tree_yes (v := ?_) (by rfl) ?_ ?_); rotate_left; (focus (intro w hSw; (try dsimp only at hSw); go_simp; try (with_reducible rfl)))) | (refine tree_no (by rfl) ?_)); (try simp only [Act.put, List.setIfInBounds_toArray, List.set_cons_zero, List.set_cons_succ]))
        refine tree_done ?_
    all_goals
      have S3 := Lib.hid ((H1a.out _).below HB.out)
      have R3 := Lib.hid (Below.trans (Ran.new (Below.drew (Below.refl 0 w)) _) (HB.out.mono (Nat.zero_le _)))
      clear HB H1 H1a
      obtain ⟨c0, c1, c2, c3, c4, c5, c6, cz⟩ := S3.out.cells
      have HSt := Lib.hid (nseto K w3 n R rest HF.out.1 HF.out.2 S3.out)
      go_wp2_with fail
      refine HSt.out.mono ?_
      rintro e w4 ⟨⟨rfl, S4⟩, R4⟩
      have S4 := Lib.hid S4
      have R4 := Lib.hid (Below.trans R3.out R4)
      go_wp2_with fail
      go_ret
      exact ⟨⟨rfl, S4.out⟩, R4.out⟩
  · go_enter Tryz.func34, Tryz.ntmps34
    go_wp2_with fail
    have H1 := Lib.hid H0.out.drew
    have H1a := Lib.hid (fun o => H0.out.drew.old o)
    have hcv1 := conv_one ((w.alloc (.cells #[.int .u8 97] 5 (0, 0))).drew) w.heap.size 97 97 rfl (by decide) (by show (w.alloc _).cell? _ = _; rw [cell_at (heap_alloc_new w _)]; rfl)
    rw [show UInt8.ofNat 97 = 97 from rfl] at hcv1
    refine region_tree (S := (fun w' => True)) (.take 0 (.take 2 (.fork 1 (.step 3 (.step 4 (.step 5 (.take 6 (.nil))))) 3 (.fork 1 (.step 4 (.step 5 (.take 6 (.nil)))) 4 (.step 1 (.step 5 (.take 6 (.nil)))))))) (by kernel_rfl) (by kernel_rfl) (by kernel_rfl) ?_ ?_
    · ((try dsimp only); (first | done | (trivial)))
    simp only [Plan.ops, List.getElem?_toArray, List.getElem?_cons_zero, List.getElem?_cons_succ]
    ((first | ((refine tree_yes (v := ?_) (by rfl) ?_ ?_); rotate_left; (focus (intro w hSw; (try dsimp only at hSw); go_simp; try (with_reducible rfl)))) | (refine tree_no (by rfl) ?_)); (try simp only [Act.put, List.setIfInBounds_toArray, List.set_cons_zero, List.set_cons_succ]))
    ((first | ((refine tree_yes (v := ?_) (by rfl) ?_ ?_); rotate_left; (focus (intro w hSw; (try dsimp only at hSw); go_simp; try (with_reducible rfl)))) | (refine tree_no (by rfl) ?_)); (try simp only [Act.put, List.setIfInBounds_toArray, List.set_cons_zero, List.set_cons_succ]))
    refine tree_fork (fun K hK => ?_) (fun K hK => ?_)
    focus
      ((first | (go_simp; (first | (go_at_call 65; (first | (refine (HOp.out _ H1.out).mono ?_) | (refine (HOp.out _ (H1a.out _)).mono ?_)); rintro e w1 ⟨rfl, rfl⟩) | (go_at_call 95; refine (HRp.out _ (H1a.out _)).mono ?_; rintro e w3 ⟨rfl, hB⟩; have HB := Lib.hid hB; clear hB)); (try go_wp2_with fail)) | go_simp); (refine hK.out _ _ ?_ (fun hHeld => ?_)); (focus ((try dsimp only); (first | done | (trivial)))); clear hK K; (try simp only [Act.put, List.setIfInBounds_toArray, List.set_cons_zero, List.set_cons_succ]))
      ((refine tree_step (fun K hK => ?_)); (first | (go_simp; (first | (go_at_call 65; (first | (refine (HOp.out _ H1.out).mono ?_) | (refine (HOp.out _ (H1a.out _)).mono ?_)); rintro e w1 ⟨rfl, rfl⟩) | (go_at_call 95; refine (HRp.out _ (H1a.out _)).mono ?_; rintro e w3 ⟨rfl, hB⟩; have HB := Lib.hid hB; clear hB)); (try go_wp2_with fail)) | go_simp); (refine hK.out _ _ ?_ (fun hHeld => ?_)); (focus ((try dsimp only); (first | done | (trivial)))); clear hK K; (try simp only [Act.put, List.setIfInBounds_toArray, List.set_cons_zero, List.set_cons_succ]))
      ((refine tree_step (fun K hK => ?_)); (first | (go_simp; (first | (go_at_call 65; (first | (refine (HOp.out _ H1.out).mono ?_) | (refine (HOp.out _ (H1a.out _)).mono ?_)); rintro e w1 ⟨rfl, rfl⟩) | (go_at_call 95; refine (HRp.out _ (H1a.out _)).mono ?_; rintro e w3 ⟨rfl, hB⟩; have HB := Lib.hid hB; clear hB)); (try go_wp2_with fail)) | go_simp); (refine hK.out _ _ ?_ (fun hHeld => ?_)); (focus ((try dsimp only); (first | done | (trivial)))); clear hK K; (try simp only [Act.put, List.setIfInBounds_toArray, List.set_cons_zero, List.set_cons_succ]))
      ((refine tree_step (fun K hK => ?_)); (first | (go_simp; (first | (go_at_call 65; (first | (refine (HOp.out _ H1.out).mono ?_) | (refine (HOp.out _ (H1a.out _)).mono ?_)); rintro e w1 ⟨rfl, rfl⟩) | (go_at_call 95; refine (HRp.out _ (H1a.out _)).mono ?_; rintro e w3 ⟨rfl, hB⟩; have HB := Lib.hid hB; clear hB)); (try go_wp2_with fail)) | go_simp); (refine hK.out _ _ ?_ (fun hHeld => ?_)); (focus ((try dsimp only); (first | done | (trivial)))); clear hK K; (try simp only [Act.put, List.setIfInBounds_toArray, List.set_cons_zero, List.set_cons_succ]))
      ((first | ((refine tree_yes (v := ?_) (by rfl) ?_ ?_); rotate_left; (focus (intro w hSw; (try dsimp only at hSw); go_simp; try (with_reducible rfl)))) | (refine tree_no (by rfl) ?_)); (try simp only [Act.put, List.setIfInBounds_toArray, List.set_cons_zero, List.set_cons_succ]))
      refine tree_done ?_
    rotate_left 1
    focus
      ((first | (go_simp; (first | (go_at_call 65; (first | (refine (HOp.out _ H1.out).mono ?_) | (refine (HOp.out _ (H1a.out _)).mono ?_)); rintro e w1 ⟨rfl, rfl⟩) | (go_at_call 95; refine (HRp.out _ (H1a.out _)).mono ?_; rintro e w3 ⟨rfl, hB⟩; have HB := Lib.hid hB; clear hB)); (try go_wp2_with fail)) | go_simp); (refine hK.out _ _ ?_ (fun hHeld => ?_)); (focus ((try dsimp only); (first | done | (trivial)))); clear hK K; (try simp only [Act.put, List.setIfInBounds_toArray, List.set_cons_zero, List.set_cons_succ]))
      refine tree_fork (fun K hK => ?_) (fun K hK => ?_)
      focus
        ((first | (go_simp; (first | (go_at_call 65; (first | (refine (HOp.out _ H1.out).mono ?_) | (refine (HOp.out _ (H1a.out _)).mono ?_)); rintro e w1 ⟨rfl, rfl⟩) | (go_at_call 95; refine (HRp.out _ (H1a.out _)).mono ?_; rintro e w3 ⟨rfl, hB⟩; have HB := Lib.hid hB; clear hB)); (try go_wp2_with fail)) | go_simp); (refine hK.out _ _ ?_ (fun hHeld => ?_)); (focus ((try dsimp only); (first | done | (trivial)))); clear hK K; (try simp only [Act.put, List.setIfInBounds_toArray, List.set_cons_zero, List.set_cons_succ]))
        ((refine tree_step (fun K hK => ?_)); (first | (go_simp; (first | (go_at_call 65; (first | (refine (HOp.out _ H1.out).mono ?_) | (refine (HOp.out _ (H1a.out _)).mono ?_)); rintro e w1 ⟨rfl, rfl⟩) | (go_at_call 95; refine (HRp.out _ (H1a.out _)).mono ?_; rintro e w3 ⟨rfl, hB⟩; have HB := Lib.hid hB; clear hB)); (try go_wp2_with fail)) | go_simp); (refine hK.out _ _ ?_ (fun hHeld => ?_)); (focus ((try dsimp only); (first | done | (trivial)))); clear hK K; (try simp only [Act.put, List.setIfInBounds_toArray, List.set_cons_zero, List.set_cons_succ]))
        ((refine tree_step (fun K hK => ?_)); (first | (go_simp; (first | (go_at_call 65; (first | (refine (HOp.out _ H1.out).mono ?_) | (refine (HOp.out _ (H1a.out _)).mono ?_)); rintro e w1 ⟨rfl, rfl⟩) | (go_at_call 95; refine (HRp.out _ (H1a.out _)).mono ?_; rintro e w3 ⟨rfl, hB⟩; have HB := Lib.hid hB; clear hB)); (try go_wp2_with fail)) | go_simp); (refine hK.out _ _ ?_ (fun hHeld => ?_)); (focus ((try dsimp only); (first | done | (trivial)))); clear hK K; (try simp only [Act.put, List.setIfInBounds_toArray, List.set_cons_zero, List.set_cons_succ]))
        ((first | ((refine tree_yes (v := ?_) (by rfl) ?_ ?_); rotate_left; (focus (intro w hSw; (try dsimp only at hSw); go_simp; try (with_reducible rfl)))) | (refine tree_no (by rfl) ?_)); (try simp only [Act.put, List.setIfInBounds_toArray, List.set_cons_zero, List.set_cons_succ]))
        refine tree_done ?_
      rotate_left 1
      focus
        ((first | (go_simp; (first | (go_at_call 65; (first | (refine (HOp.out _ H1.out).mono ?_) | (refine (HOp.out _ (H1a.out _)).mono ?_)); rintro e w1 ⟨rfl, rfl⟩) | (go_at_call 95; refine (HRp.out _ (H1a.out _)).mono ?_; rintro e w3 ⟨rfl, hB⟩; have HB := Lib.hid hB; clear hB)); (try go_wp2_with fail)) | go_simp); (refine hK.out _ _ ?_ (fun hHeld => ?_)); (focus ((try dsimp only); (first | done | (trivial)))); clear hK K; (try simp only [Act.put, List.setIfInBounds_toArray, List.set_cons_zero, List.set_cons_succ]))
        ((refine tree_step (fun K hK => ?_)); (first | (go_simp; (first | (go_at_call 65; (first | (refine (HOp.out _ H1.out).mono ?_) | (refine (HOp.out _ (H1a.out _)).mono ?_)); rintro e w1 ⟨rfl, rfl⟩) | (go_at_call 95; refine (HRp.out _ (H1a.out _)).mono ?_; rintro e w3 ⟨rfl, hB⟩; have HB := Lib.hid hB; clear hB)); (try go_wp2_with fail)) | go_simp); (refine hK.out _ _ ?_ (fun hHeld => ?_)); (focus ((try dsimp only); (first | done | (trivial)))); clear hK K; (try simp only [Act.put, List.setIfInBounds_toArray, List.set_cons_zero, List.set_cons_succ]))
        ((refine tree_step (fun K hK => ?_)); (first | (go_simp; (first | (go_at_call 65; (first | (refine (HOp.out _ H1.out).mono ?_) | (refine (HOp.out _ (H1a.out _)).mono ?_)); rintro e w1 ⟨rfl, rfl⟩) | (go_at_call 95; refine (HRp.out _ (H1a.out _)).mono ?_; rintro e w3 ⟨rfl, hB⟩; have HB := Lib.hid hB; clear hB)); (try go_wp2_with fail)) | go_simp); (refine hK.out _ _ ?_ (fun hHeld => ?_)); (focus ((try dsimp only); (first | done | (trivial)))); clear hK K; (try simp only [Act.put, List.setIfInBounds_toArray, List.set_cons_zero, List.set_cons_succ]))
        ((first | ((refine tree_yes (v := ?_) (by rfl) ?_ ?_); rotate_left; (focus (intro w hSw; (try dsimp only at hSw); go_simp; try (with_reducible rfl)))) | (refine tree_no (by rfl) ?_)); (try simp only [Act.put, List.setIfInBounds_toArray, List.set_cons_zero, List.set_cons_succ]))
        refine tree_done ?_
    all_goals
      have S3 := Lib.hid ((H1a.out _).below HB.out)
      have R3 := Lib.hid (Below.trans (Ran.new (Below.drew (Below.refl 0 w)) _) (HB.out.mono (Nat.zero_le _)))
      clear HB H1 H1a
      obtain ⟨c0, c1, c2, c3, c4, c5, c6, cz⟩ := S3.out.cells
      have HSt := Lib.hid (nseto K w3 n R rest HF.out.1 HF.out.2 S3.out)
      go_wp2_with fail
      refine HSt.out.mono ?_
      rintro e w4 ⟨⟨rfl, S4⟩, R4⟩
      have S4 := Lib.hid S4
      have R4 := Lib.hid (Below.trans R3.out R4)
      go_wp2_with fail
      go_ret
      exact ⟨⟨rfl, S4.out⟩, R4.out⟩
  · go_enter Tryz.func34, Tryz.ntmps34
    go_wp2_with fail
    have H1 := Lib.hid H0.out.drew
    have H1a := Lib.hid (fun o => H0.out.drew.old o)
    have hcv1 := conv_one ((w.alloc (.cells #[.int .u8 101] 5 (0, 0))).drew) w.heap.size 101 101 rfl (by decide) (by show (w.alloc _).cell? _ = _; rw [cell_at (heap_alloc_new w _)]; rfl)
    rw [show UInt8.ofNat 101 = 101 from rfl] at hcv1
    refine region_tree (S := (fun w' => True)) (.take 0 (.take 2 (.fork 1 (.step 3 (.step 4 (.step 5 (.take 6 (.nil))))) 3 (.fork 1 (.step 4 (.step 5 (.take 6 (.nil)))) 4 (.step 1 (.step 5 (.take 6 (.nil)))))))) (by kernel_rfl) (by kernel_rfl) (by kernel_rfl) ?_ ?_
    · ((try dsimp only); (first | done | (trivial)))
    simp only [Plan.ops, List.getElem?_toArray, List.getElem?_cons_zero, List.getElem?_cons_succ]
    ((first | ((refine tree_yes (v := ?_) (by rfl) ?_ ?_); rotate_left; (focus (intro w hSw; (try dsimp only at hSw); go_simp; try (with_reducible rfl)))) | (refine tree_no (by rfl) ?_)); (try simp only [Act.put, List.setIfInBounds_toArray, List.set_cons_zero, List.set_cons_succ]))
    ((first | ((refine tree_yes (v := ?_) (by rfl) ?_ ?_); rotate_left; (focus (intro w hSw; (try dsimp only at hSw); go_simp; try (with_reducible rfl)))) | (refine tree_no (by rfl) ?_)); (try simp only [Act.put, List.setIfInBounds_toArray, List.set_cons_zero, List.set_cons_succ]))
    refine tree_fork (fun K hK => ?_) (fun K hK => ?_)
    focus
      ((first | (go_simp; (first | (go_at_call 65; (first | (refine (HOp.out _ H1.out).mono ?_) | (refine (HOp.out _ (H1a.out _)).mono ?_)); rintro e w1 ⟨rfl, rfl⟩) | (go_at_call 95; refine (HRp.out _ (H1a.out _)).mono ?_; rintro e w3 ⟨rfl, hB⟩; have HB := Lib.hid hB; clear hB)); (try go_wp2_with fail)) | go_simp); (refine hK.out _ _ ?_ (fun hHeld => ?_)); (focus ((try dsimp only); (first | done | (trivial)))); clear hK K; (try simp only [Act.put, List.setIfInBounds_toArray, List.set_cons_zero, List.set_cons_succ]))
      ((refine tree_step (fun K hK => ?_)); (first | (go_simp; (first | (go_at_call 65; (first | (refine (HOp.out _ H1.out).mono ?_) | (refine (HOp.out _ (H1a.out _)).mono ?_)); rintro e w1 ⟨rfl, rfl⟩) | (go_at_call 95; refine (HRp.out _ (H1a.out _)).mono ?_; rintro e w3 ⟨rfl, hB⟩; have HB := Lib.hid hB; clear hB)); (try go_wp2_with fail)) | go_simp); (refine hK.out _ _ ?_ (fun hHeld => ?_)); (focus ((try dsimp only); (first | done | (trivial)))); clear hK K; (try simp only [Act.put, List.setIfInBounds_toArray, List.set_cons_zero, List.set_cons_succ]))
      ((refine tree_step (fun K hK => ?_)); (first | (go_simp; (first | (go_at_call 65; (first | (refine (HOp.out _ H1.out).mono ?_) | (refine (HOp.out _ (H1a.out _)).mono ?_)); rintro e w1 ⟨rfl, rfl⟩) | (go_at_call 95; refine (HRp.out _ (H1a.out _)).mono ?_; rintro e w3 ⟨rfl, hB⟩; have HB := Lib.hid hB; clear hB)); (try go_wp2_with fail)) | go_simp); (refine hK.out _ _ ?_ (fun hHeld => ?_)); (focus ((try dsimp only); (first | done | (trivial)))); clear hK K; (try simp only [Act.put, List.setIfInBounds_toArray, List.set_cons_zero, List.set_cons_succ]))
      ((refine tree_step (fun K hK => ?_)); (first | (go_simp; (first | (go_at_call 65; (first | (refine (HOp.out _ H1.out).mono ?_) | (refine (HOp.out _ (H1a.out _)).mono ?_)); rintro e w1 ⟨rfl, rfl⟩) | (go_at_call 95; refine (HRp.out _ (H1a.out _)).mono ?_; rintro e w3 ⟨rfl, hB⟩; have HB := Lib.hid hB; clear hB)); (try go_wp2_with fail)) | go_simp); (refine hK.out _ _ ?_ (fun hHeld => ?_)); (focus ((try dsimp only); (first | done | (trivial)))); clear hK K; (try simp only [Act.put, List.setIfInBounds_toArray, List.set_cons_zero, List.set_cons_succ]))
      ((first | ((refine tree_yes (v := ?_) (by rfl) ?_ ?_); rotate_left; (focus (intro w hSw; (try dsimp only at hSw); go_simp; try (with_reducible rfl)))) | (refine tree_no (by rfl) ?_)); (try simp only [Act.put, List.setIfInBounds_toArray, List.set_cons_zero, List.set_cons_succ]))
      refine tree_done ?_
    rotate_left 1
    focus
      ((first | (go_simp; (first | (go_at_call 65; (first | (refine (HOp.out _ H1.out).mono ?_) | (refine (HOp.out _ (H1a.out _)).mono ?_)); rintro e w1 ⟨rfl, rfl⟩) | (go_at_call 95; refine (HRp.out _ (H1a.out _)).mono ?_; rintro e w3 ⟨rfl, hB⟩; have HB := Lib.hid hB; clear hB)); (try go_wp2_with fail)) | go_simp); (refine hK.out _ _ ?_ (fun hHeld => ?_)); (focus ((try dsimp only); (first | done | (trivial)))); clear hK K; (try simp only [Act.put, List.setIfInBounds_toArray, List.set_cons_zero, List.set_cons_succ]))
      refine tree_fork (fun K hK => ?_) (fun K hK => ?_)
      focus
        ((first | (go_simp; (first | (go_at_call 65; (first | (refine (HOp.out _ H1.out).mono ?_) | (refine (HOp.out _ (H1a.out _)).mono ?_)); rintro e w1 ⟨rfl, rfl⟩) | (go_at_call 95; refine (HRp.out _ (H1a.out _)).mono ?_; rintro e w3 ⟨rfl, hB⟩; have HB := Lib.hid hB; clear hB)); (try go_wp2_with fail)) | go_simp); (refine hK.out _ _ ?_ (fun hHeld => ?_)); (focus ((try dsimp only); (first | done | (trivial)))); clear hK K; (try simp only [Act.put, List.setIfInBounds_toArray, List.set_cons_zero, List.set_cons_succ]))
        ((refine tree_step (fun K hK => ?_)); (first | (go_simp; (first | (go_at_call 65; (first | (refine (HOp.out _ H1.out).mono ?_) | (refine (HOp.out _ (H1a.out _)).mono ?_)); rintro e w1 ⟨rfl, rfl⟩) | (go_at_call 95; refine (HRp.out _ (H1a.out _)).mono ?_; rintro e w3 ⟨rfl, hB⟩; have HB := Lib.hid hB; clear hB)); (try go_wp2_with fail)) | go_simp); (refine hK.out _ _ ?_ (fun hHeld => ?_)); (focus ((try dsimp only); (first | done | (trivial)))); clear hK K; (try simp only [Act.put, List.setIfInBounds_toArray, List.set_cons_zero, List.set_cons_succ]))
        ((refine tree_step (fun K hK => ?_)); (first | (go_simp; (first | (go_at_call 65; (first | (refine (HOp.out _ H1.out).mono ?_) | (refine (HOp.out _ (H1a.out _)).mono ?_)); rintro e w1 ⟨rfl, rfl⟩) | (go_at_call 95; refine (HRp.out _ (H1a.out _)).mono ?_; rintro e w3 ⟨rfl, hB⟩; have HB := Lib.hid hB; clear hB)); (try go_wp2_with fail)) | go_simp); (refine hK.out _ _ ?_ (fun hHeld => ?_)); (focus ((try dsimp only); (first | done | (trivial)))); clear hK K; (try simp only [Act.put, List.setIfInBounds_toArray, List.set_cons_zero, List.set_cons_succ]))
        ((first | ((refine tree_yes (v := ?_) (by rfl) ?_ ?_); rotate_left; (focus (intro w hSw; (try dsimp only at hSw); go_simp; try (with_reducible rfl)))) | (refine tree_no (by rfl) ?_)); (try simp only [Act.put, List.setIfInBounds_toArray, List.set_cons_zero, List.set_cons_succ]))
        refine tree_done ?_
      rotate_left 1
      focus
        ((first | (go_simp; (first | (go_at_call 65; (first | (refine (HOp.out _ H1.out).mono ?_) | (refine (HOp.out _ (H1a.out _)).mono ?_)); rintro e w1 ⟨rfl, rfl⟩) | (go_at_call 95; refine (HRp.out _ (H1a.out _)).mono ?_; rintro e w3 ⟨rfl, hB⟩; have HB := Lib.hid hB; clear hB)); (try go_wp2_with fail)) | go_simp); (refine hK.out _ _ ?_ (fun hHeld => ?_)); (focus ((try dsimp only); (first | done | (trivial)))); clear hK K; (try simp only [Act.put, List.setIfInBounds_toArray, List.set_cons_zero, List.set_cons_succ]))
        ((refine tree_step (fun K hK => ?_)); (first | (go_simp; (first | (go_at_call 65; (first | (refine (HOp.out _ H1.out).mono ?_) | (refine (HOp.out _ (H1a.out _)).mono ?_)); rintro e w1 ⟨rfl, rfl⟩) | (go_at_call 95; refine (HRp.out _ (H1a.out _)).mono ?_; rintro e w3 ⟨rfl, hB⟩; have HB := Lib.hid hB; clear hB)); (try go_wp2_with fail)) | go_simp); (refine hK.out _ _ ?_ (fun hHeld => ?_)); (focus ((try dsimp only); (first | done | (trivial)))); clear hK K; (try simp only [Act.put, List.setIfInBounds_toArray, List.set_cons_zero, List.set_cons_succ]))
        ((refine tree_step (fun K hK => ?_)); (first | (go_simp; (first | (go_at_call 65; (first | (refine (HOp.out _ H1.out).mono ?_) | (refine (HOp.out _ (H1a.out _)).mono ?_)); rintro e w1 ⟨rfl, rfl⟩) | (go_at_call 95; refine (HRp.out _ (H1a.out _)).mono ?_; rintro e w3 ⟨rfl, hB⟩; have HB := Lib.hid hB; clear hB)); (try go_wp2_with fail)) | go_simp); (refine hK.out _ _ ?_ (fun hHeld => ?_)); (focus ((try dsimp only); (first | done | (trivial)))); clear hK K; (try simp only [Act.put, List.setIfInBounds_toArray, List.set_cons_zero, List.set_cons_succ]))
        ((first | ((refine tree_yes (v := ?_) (by rfl) ?_ ?_); rotate_left; (focus (intro w hSw; (try dsimp only at hSw); go_simp; try (with_reducible rfl)))) | (refine tree_no (by rfl) ?_)); (try simp only [Act.put, List.setIfInBounds_toArray, List.set_cons_zero, List.set_cons_succ]))
        refine tree_done ?_
    all_goals
      have S3 := Lib.hid ((H1a.out _).below HB.out)
      have R3 := Lib.hid (Below.trans (Ran.new (Below.drew (Below.refl 0 w)) _) (HB.out.mono (Nat.zero_le _)))
      clear HB H1 H1a
      obtain ⟨c0, c1, c2, c3, c4, c5, c6, cz⟩ := S3.out.cells
      have HSt := Lib.hid (nseto K w3 n R rest HF.out.1 HF.out.2 S3.out)
      go_wp2_with fail
      refine HSt.out.mono ?_
      rintro e w4 ⟨⟨rfl, S4⟩, R4⟩
      have S4 := Lib.hid S4
      have R4 := Lib.hid (Below.trans R3.out R4)
      go_wp2_with fail
      go_ret
      exact ⟨⟨rfl, S4.out⟩, R4.out⟩
  · go_enter Tryz.func34, Tryz.ntmps34
    go_wp2_with fail
    have H1 := Lib.hid H0.out.drew
    have H1a := Lib.hid (fun o => H0.out.drew.old o)
    have hcv1 := conv_one ((w.alloc (.cells #[.int .u8 102] 5 (0, 0))).drew) w.heap.size 102 102 rfl (by decide) (by show (w.alloc _).cell? _ = _; rw [cell_at (heap_alloc_new w _)]; rfl)
    rw [show UInt8.ofNat 102 = 102 from rfl] at hcv1
    refine region_tree (S := (fun w' => True)) (.take 0 (.take 2 (.fork 1 (.step 3 (.step 4 (.step 5 (.take 6 (.nil))))) 3 (.fork 1 (.step 4 (.step 5 (.take 6 (.nil)))) 4 (.step 1 (.step 5 (.take 6 (.nil)))))))) (by kernel_rfl) (by kernel_rfl) (by kernel_rfl) ?_ ?_
    · ((try dsimp only); (first | done | (trivial)))
    simp only [Plan.ops, List.getElem?_toArray, List.getElem?_cons_zero, List.getElem?_cons_succ]
    ((first | ((refine tree_yes (v := ?_) (by rfl) ?_ ?_); rotate_left; (focus (intro w hSw; (try dsimp only at hSw); go_simp; try (with_reducible rfl)))) | (refine tree_no (by rfl) ?_)); (try simp only [Act.put, List.setIfInBounds_toArray, List.set_cons_zero, List.set_cons_succ]))
    ((first | ((refine tree_yes (v := ?_) (by rfl) ?_ ?_); rotate_left; (focus (intro w hSw; (try dsimp only at hSw); go_simp; try (with_reducible rfl)))) | (refine tree_no (by rfl) ?_)); (try simp only [Act.put, List.setIfInBounds_toArray, List.set_cons_zero, List.set_cons_succ]))
    refine tree_fork (fun K hK => ?_) (fun K hK => ?_)
    focus
      ((first | (go_simp; (first | (go_at_call 65; (first | (refine (HOp.out _ H1.out).mono ?_) | (refine (HOp.out _ (H1a.out _)).mono ?_)); rintro e w1 ⟨rfl, rfl⟩) | (go_at_call 95; refine (HRp.out _ (H1a.out _)).mono ?_; rintro e w3 ⟨rfl, hB⟩; have HB := Lib.hid hB; clear hB)); (try go_wp2_with fail)) | go_simp); (refine hK.out _ _ ?_ (fun hHeld => ?_)); (focus ((try dsimp only); (first | done | (trivial)))); clear hK K; (try simp only [Act.put, List.setIfInBounds_toArray, List.set_cons_zero, List.set_cons_succ]))
      ((refine tree_step (fun K hK => ?_)); (first | (go_simp; (first | (go_at_call 65; (first | (refine (HOp.out _ H1.out).mono ?_) | (refine (HOp.out _ (H1a.out _)).mono ?_)); rintro e w1 ⟨rfl, rfl⟩) | (go_at_call 95; refine (HRp.out _ (H1a.out _)).mono ?_; rintro e w3 ⟨rfl, hB⟩; have HB := Lib.hid hB; clear hB)); (try go_wp2_with fail)) | go_simp); (refine hK.out _ _ ?_ (fun hHeld => ?_)); (focus ((try dsimp only); (first | done | (trivial)))); clear hK K; (try simp only [Act.put, List.setIfInBounds_toArray, List.set_cons_zero, List.set_cons_succ]))
      ((refine tree_step (fun K hK => ?_)); (first | (go_simp; (first | (go_at_call 65; (first | (refine (HOp.out _ H1.out).mono ?_) | (refine (HOp.out _ (H1a.out _)).mono ?_)); rintro e w1 ⟨rfl, rfl⟩) | (go_at_call 95; refine (HRp.out _ (H1a.out _)).mono ?_; rintro e w3 ⟨rfl, hB⟩; have HB := Lib.hid hB; clear hB)); (try go_wp2_with fail)) | go_simp); (refine hK.out _ _ ?_ (fun hHeld => ?_)); (focus ((try dsimp only); (first | done | (trivial)))); clear hK K; (try simp only [Act.put, List.setIfInBounds_toArray, List.set_cons_zero, List.set_cons_succ]))
      ((refine tree_step (fun K hK => ?_)); (first | (go_simp; (first | (go_at_call 65; (first | (refine (HOp.out _ H1.out).mono ?_) | (refine (HOp.out _ (H1a.out _)).mono ?_)); rintro e w1 ⟨rfl, rfl⟩) | (go_at_call 95; refine (HRp.out _ (H1a.out _)).mono ?_; rintro e w3 ⟨rfl, hB⟩; have HB := Lib.hid hB; clear hB)); (try go_wp2_with fail)) | go_simp); (refine hK.out _ _ ?_ (fun hHeld => ?_)); (focus ((try dsimp only); (first | done | (trivial)))); clear hK K; (try simp only [Act.put, List.setIfInBounds_toArray, List.set_cons_zero, List.set_cons_succ]))
      ((first | ((refine tree_yes (v := ?_) (by rfl) ?_ ?_); rotate_left; (focus (intro w hSw; (try dsimp only at hSw); go_simp; try (with_reducible rfl)))) | (refine tree_no (by rfl) ?_)); (try simp only [Act.put, List.setIfInBounds_toArray, List.set_cons_zero, List.set_cons_succ]))
      refine tree_done ?_
    rotate_left 1
    focus
      ((first | (go_simp; (first | (go_at_call 65; (first | (refine (HOp.out _ H1.out).mono ?_) | (refine (HOp.out _ (H1a.out _)).mono ?_)); rintro e w1 ⟨rfl, rfl⟩) | (go_at_call 95; refine (HRp.out _ (H1a.out _)).mono ?_; rintro e w3 ⟨rfl, hB⟩; have HB := Lib.hid hB; clear hB)); (try go_wp2_with fail)) | go_simp); (refine hK.out _ _ ?_ (fun hHeld => ?_)); (focus ((try dsimp only); (first | done | (trivial)))); clear hK K; (try simp only [Act.put, List.setIfInBounds_toArray, List.set_cons_zero, List.set_cons_succ]))
      refine tree_fork (fun K hK => ?_) (fun K hK => ?_)
      focus
        ((first | (go_simp; (first | (go_at_call 65; (first | (refine (HOp.out _ H1.out).mono ?_) | (refine (HOp.out _ (H1a.out _)).mono ?_)); rintro e w1 ⟨rfl, rfl⟩) | (go_at_call 95; refine (HRp.out _ (H1a.out _)).mono ?_; rintro e w3 ⟨rfl, hB⟩; have HB := Lib.hid hB; clear hB)); (try go_wp2_with fail)) | go_simp); (refine hK.out _ _ ?_ (fun hHeld => ?_)); (focus ((try dsimp only); (first | done | (trivial)))); clear hK K; (try simp only [Act.put, List.setIfInBounds_toArray, List.set_cons_zero, List.set_cons_succ]))
        ((refine tree_step (fun K hK => ?_)); (first | (go_simp; (first | (go_at_call 65; (first | (refine (HOp.out _ H1.out).mono ?_) | (refine (HOp.out _ (H1a.out _)).mono ?_)); rintro e w1 ⟨rfl, rfl⟩) | (go_at_call 95; refine (HRp.out _ (H1a.out _)).mono ?_; rintro e w3 ⟨rfl, hB⟩; have HB := Lib.hid hB; clear hB)); (try go_wp2_with fail)) | go_simp); (refine hK.out _ _ ?_ (fun hHeld => ?_)); (focus ((try dsimp only); (first | done | (trivial)))); clear hK K; (try simp only [Act.put, List.setIfInBounds_toArray, List.set_cons_zero, List.set_cons_succ]))
        ((refine tree_step (fun K hK => ?_)); (first | (go_simp; (first | (go_at_call 65; (first | (refine (HOp.out _ H1.out).mono ?_) | (refine (HOp.out _ (H1a.out _)).mono ?_)); rintro e w1 ⟨rfl, rfl⟩) | (go_at_call 95; refine (HRp.out _ (H1a.out _)).mono ?_; rintro e w3 ⟨rfl, hB⟩; have HB := Lib.hid hB; clear hB)); (try go_wp2_with fail)) | go_simp); (refine hK.out _ _ ?_ (fun hHeld => ?_)); (focus ((try dsimp only); (first | done | (trivial)))); clear hK K; (try simp only [Act.put, List.setIfInBounds_toArray, List.set_cons_zero, List.set_cons_succ]))
        ((first | ((refine tree_yes (v := ?_) (by rfl) ?_ ?_); rotate_left; (focus (intro w hSw; (try dsimp only at hSw); go_simp; try (with_reducible rfl)))) | (refine tree_no (by rfl) ?_)); (try simp only [Act.put, List.setIfInBounds_toArray, List.set_cons_zero, List.set_cons_succ]))
        refine tree_done ?_
      rotate_left 1
      focus
        ((first | (go_simp; (first | (go_at_call 65; (first | (refine (HOp.out _ H1.out).mono ?_) | (refine (HOp.out _ (H1a.out _)).mono ?_)); rintro e w1 ⟨rfl, rfl⟩) | (go_at_call 95; refine (HRp.out _ (H1a.out _)).mono ?_; rintro e w3 ⟨rfl, hB⟩; have HB := Lib.hid hB; clear hB)); (try go_wp2_with fail)) | go_simp); (refine hK.out _ _ ?_ (fun hHeld => ?_)); (focus ((try dsimp only); (first | done | (trivial)))); clear hK K; (try simp only [Act.put, List.setIfInBounds_toArray, List.set_cons_zero, List.set_cons_succ]))
        ((refine tree_step (fun K hK => ?_)); (first | (go_simp; (first | (go_at_call 65; (first | (refine (HOp.out _ H1.out).mono ?_) | (refine (HOp.out _ (H1a.out _)).mono ?_)); rintro e w1 ⟨rfl, rfl⟩) | (go_at_call 95; refine (HRp.out _ (H1a.out _)).mono ?_; rintro e w3 ⟨rfl, hB⟩; have HB := Lib.hid hB; clear hB)); (try go_wp2_with fail)) | go_simp); (refine hK.out _ _ ?_ (fun hHeld => ?_)); (focus ((try dsimp only); (first | done | (trivial)))); clear hK K; (try simp only [Act.put, List.setIfInBounds_toArray, List.set_cons_zero, List.set_cons_succ]))
        ((refine tree_step (fun K hK => ?_)); (first | (go_simp; (first | (go_at_call 65; (first | (refine (HOp.out _ H1.out).mono ?_) | (refine (HOp.out _ (H1a.out _)).mono ?_)); rintro e w1 ⟨rfl, rfl⟩) | (go_at_call 95; refine (HRp.out _ (H1a.out _)).mono ?_; rintro e w3 ⟨rfl, hB⟩; have HB := Lib.hid hB; clear hB)); (try go_wp2_with fail)) | go_simp); (refine hK.out _ _ ?_ (fun hHeld => ?_)); (focus ((try dsimp only); (first | done | (trivial)))); clear hK K; (try simp only [Act.put, List.setIfInBounds_toArray, List.set_cons_zero, List.set_cons_succ]))
        ((first | ((refine tree_yes (v := ?_) (by rfl) ?_ ?_); rotate_left; (focus (intro w hSw; (try dsimp only at hSw); go_simp; try (with_reducible rfl)))) | (refine tree_no (by rfl) ?_)); (try simp only [Act.put, List.setIfInBounds_toArray, List.set_cons_zero, List.set_cons_succ]))
        refine tree_done ?_
    all_goals
      have S3 := Lib.hid ((H1a.out _).below HB.out)
      have R3 := Lib.hid (Below.trans (Ran.new (Below.drew (Below.refl 0 w)) _) (HB.out.mono (Nat.zero_le _)))
      clear HB H1 H1a
      obtain ⟨c0, c1, c2, c3, c4, c5, c6, cz⟩ := S3.out.cells
      have HSt := Lib.hid (nseto K w3 n R rest HF.out.1 HF.out.2 S3.out)
      go_wp2_with fail
      refine HSt.out.mono ?_
      rintro e w4 ⟨⟨rfl, S4⟩, R4⟩
      have S4 := Lib.hid S4
      have R4 := Lib.hid (Below.trans R3.out R4)
      go_wp2_with fail
      go_ret
      exact ⟨⟨rfl, S4.out⟩, R4.out⟩
  · go_enter Tryz.func34, Tryz.ntmps34
    go_wp2_with fail
    have H1 := Lib.hid H0.out.drew
    have H1a := Lib.hid (fun o => H0.out.drew.old o)
    have hcv1 := conv_one ((w.alloc (.cells #[.int .u8 117] 5 (0, 0))).drew) w.heap.size 117 117 rfl (by decide) (by show (w.alloc _).cell? _ = _; rw [cell_at (heap_alloc_new w _)]; rfl)
    rw [show UInt8.ofNat 117 = 117 from rfl] at hcv1
    refine region_tree (S := (fun w' => True)) (.take 0 (.take 2 (.fork 1 (.step 3 (.step 4 (.step 5 (.take 6 (.nil))))) 3 (.fork 1 (.step 4 (.step 5 (.take 6 (.nil)))) 4 (.step 1 (.step 5 (.take 6 (.nil)))))))) (by kernel_rfl) (by kernel_rfl) (by kernel_rfl) ?_ ?_
    · ((try dsimp only); (first | done | (trivial)))
    simp only [Plan.ops, List.getElem?_toArray, List.getElem?_cons_zero, List.getElem?_cons_succ]
    ((first | ((refine tree_yes (v := ?_) (by rfl) ?_ ?_); rotate_left; (focus (intro w hSw; (try dsimp only at hSw); go_simp; try (with_reducible rfl)))) | (refine tree_no (by rfl) ?_)); (try simp only [Act.put, List.setIfInBounds_toArray, List.set_cons_zero, List.set_cons_succ]))
    ((first | ((refine tree_yes (v := ?_) (by rfl) ?_ ?_); rotate_left; (focus (intro w hSw; (try dsimp only at hSw); go_simp; try (with_reducible rfl)))) | (refine tree_no (by rfl) ?_)); (try simp only [Act.put, List.setIfInBounds_toArray, List.set_cons_zero, List.set_cons_succ]))
    refine tree_fork (fun K hK => ?_) (fun K hK => ?_)
    focus
      ((first | (go_simp; (first | (go_at_call 65; (first | (refine (HOp.out _ H1.out).mono ?_) | (refine (HOp.out _ (H1a.out _)).mono ?_)); rintro e w1 ⟨rfl, rfl⟩) | (go_at_call 95; refine (HRp.out _ (H1a.out _)).mono ?_; rintro e w3 ⟨rfl, hB⟩; have HB := Lib.hid hB; clear hB)); (try go_wp2_with fail)) | go_simp); (refine hK.out _ _ ?_ (fun hHeld => ?_)); (focus ((try dsimp only); (first | done | (trivial)))); clear hK K; (try simp only [Act.put, List.setIfInBounds_toArray, List.set_cons_zero, List.set_cons_succ]))
      ((refine tree_step (fun K hK => ?_)); (first | (go_simp; (first | (go_at_call 65; (first | (refine (HOp.out _ H1.out).mono ?_) | (refine (HOp.out _ (H1a.out _)).mono ?_)); rintro e w1 ⟨rfl, rfl⟩) | (go_at_call 95; refine (HRp.out _ (H1a.out _)).mono ?_; rintro e w3 ⟨rfl, hB⟩; have HB := Lib.hid hB; clear hB)); (try go_wp2_with fail)) | go_simp); (refine hK.out _ _ ?_ (fun hHeld => ?_)); (focus ((try dsimp only); (first | done | (trivial)))); clear hK K; (try simp only [Act.put, List.setIfInBounds_toArray, List.set_cons_zero, List.set_cons_succ]))
      ((refine tree_step (fun K hK => ?_)); (first | (go_simp; (first | (go_at_call 65; (first | (refine (HOp.out _ H1.out).mono ?_) | (refine (HOp.out _ (H1a.out _)).mono ?_)); rintro e w1 ⟨rfl, rfl⟩) | (go_at_call 95; refine (HRp.out _ (H1a.out _)).mono ?_; rintro e w3 ⟨rfl, hB⟩; have HB := Lib.hid hB; clear hB)); (try go_wp2_with fail)) | go_simp); (refine hK.out _ _ ?_ (fun hHeld => ?_)); (focus ((try dsimp only); (first | done | (trivial)))); clear hK K; (try simp only [Act.put, List.setIfInBounds_toArray, List.set_cons_zero, List.set_cons_succ]))
      ((refine tree_step (fun K hK => ?_)); (first | (go_simp; (first | (go_at_call 65; (first | (refine (HOp.out _ H1.out).mono ?_) | (refine (HOp.out _ (H1a.out _)).mono ?_)); rintro e w1 ⟨rfl, rfl⟩) | (go_at_call 95; refine (HRp.out _ (H1a.out _)).mono ?_; rintro e w3 ⟨rfl, hB⟩; have HB := Lib.hid hB; clear hB)); (try go_wp2_with fail)) | go_simp); (refine hK.out _ _ ?_ (fun hHeld => ?_)); (focus ((try dsimp only); (first | done | (trivial)))); clear hK K; (try simp only [Act.put, List.setIfInBounds_toArray, List.set_cons_zero, List.set_cons_succ]))
      ((first | ((refine tree_yes (v := ?_) (by rfl) ?_ ?_); rotate_left; (focus (intro w hSw; (try dsimp only at hSw); go_simp; try (with_reducible rfl)))) | (refine tree_no (by rfl) ?_)); (try simp only [Act.put, List.setIfInBounds_toArray, List.set_cons_zero, List.set_cons_succ]))
      refine tree_done ?_
    rotate_left 1
    focus
      ((first | (go_simp; (first | (go_at_call 65; (first | (refine (HOp.out _ H1.out).mono ?_) | (refine (HOp.out _ (H1a.out _)).mono ?_)); rintro e w1 ⟨rfl, rfl⟩) | (go_at_call 95; refine (HRp.out _ (H1a.out _)).mono ?_; rintro e w3 ⟨rfl, hB⟩; have HB := Lib.hid hB; clear hB)); (try go_wp2_with fail)) | go_simp); (refine hK.out _ _ ?_ (fun hHeld => ?_)); (focus ((try dsimp only); (first | done | (trivial)))); clear hK K; (try simp only [Act.put, List.setIfInBounds_toArray, List.set_cons_zero, List.set_cons_succ]))
      refine tree_fork (fun K hK => ?_) (fun K hK => ?_)
      focus
        ((first | (go_simp; (first | (go_at_call 65; (first | (refine (HOp.out _ H1.out).mono ?_) | (refine (HOp.out _ (H1a.out _)).mono ?_)); rintro e w1 ⟨rfl, rfl⟩) | (go_at_call 95; refine (HRp.out _ (H1a.out _)).mono ?_; rintro e w3 ⟨rfl, hB⟩; have HB := Lib.hid hB; clear hB)); (try go_wp2_with fail)) | go_simp); (refine hK.out _ _ ?_ (fun hHeld => ?_)); (focus ((try dsimp only); (first | done | (trivial)))); clear hK K; (try simp only [Act.put, List.setIfInBounds_toArray, List.set_cons_zero, List.set_cons_succ]))
        ((refine tree_step (fun K hK => ?_)); (first | (go_simp; (first | (go_at_call 65; (first | (refine (HOp.out _ H1.out).mono ?_) | (refine (HOp.out _ (H1a.out _)).mono ?_)); rintro e w1 ⟨rfl, rfl⟩) | (go_at_call 95; refine (HRp.out _ (H1a.out _)).mono ?_; rintro e w3 ⟨rfl, hB⟩; have HB := Lib.hid hB; clear hB)); (try go_wp2_with fail)) | go_simp); (refine hK.out _ _ ?_ (fun hHeld => ?_)); (focus ((try dsimp only); (first | done | (trivial)))); clear hK K; (try simp only [Act.put, List.setIfInBounds_toArray, List.set_cons_zero, List.set_cons_succ]))
        ((refine tree_step (fun K hK => ?_)); (first | (go_simp; (first | (go_at_call 65; (first | (refine (HOp.out _ H1.out).mono ?_) | (refine (HOp.out _ (H1a.out _)).mono ?_)); rintro e w1 ⟨rfl, rfl⟩) | (go_at_call 95; refine (HRp.out _ (H1a.out _)).mono ?_; rintro e w3 ⟨rfl, hB⟩; have HB := Lib.hid hB; clear hB)); (try go_wp2_with fail)) | go_simp); (refine hK.out _ _ ?_ (fun hHeld => ?_)); (focus ((try dsimp only); (first | done | (trivial)))); clear hK K; (try simp only [Act.put, List.setIfInBounds_toArray, List.set_cons_zero, List.set_cons_succ]))
        ((first | ((refine tree_yes (v := ?_) (by rfl) ?_ ?_); rotate_left; (focus (intro w hSw; (try dsimp only at hSw); go_simp; try (with_reducible rfl)))) | (refine tree_no (by rfl) ?_)); (try simp only [Act.put, List.setIfInBounds_toArray, List.set_cons_zero, List.set_cons_succ]))
        refine tree_done ?_
      rotate_left 1
      focus
        ((first | (go_simp; (first | (go_at_call 65; (first | (refine (HOp.out _ H1.out).mono ?_) | (refine (HOp.out _ (H1a.out _)).mono ?_)); rintro e w1 ⟨rfl, rfl⟩) | (go_at_call 95; refine (HRp.out _ (H1a.out _)).mono ?_; rintro e w3 ⟨rfl, hB⟩; have HB := Lib.hid hB; clear hB)); (try go_wp2_with fail)) | go_simp); (refine hK.out _ _ ?_ (fun hHeld => ?_)); (focus ((try dsimp only); (first | done | (trivial)))); clear hK K; (try simp only [Act.put, List.setIfInBounds_toArray, List.set_cons_zero, List.set_cons_succ]))
        ((refine tree_step (fun K hK => ?_)); (first | (go_simp; (first | (go_at_call 65; (first | (refine (HOp.out _ H1.out).mono ?_) | (refine (HOp.out _ (H1a.out _)).mono ?_)); rintro e w1 ⟨rfl, rfl⟩) | (go_at_call 95; refine (HRp.out _ (H1a.out _)).mono ?_; rintro e w3 ⟨rfl, hB⟩; have HB := Lib.hid hB; clear hB)); (try go_wp2_with fail)) | go_simp); (refine hK.out _ _ ?_ (fun hHeld => ?_)); (focus ((try dsimp only); (first | done | (trivial)))); clear hK K; (try simp only [Act.put, List.setIfInBounds_toArray, List.set_cons_zero, List.set_cons_succ]))
        ((refine tree_step (fun K hK => ?_)); (first | (go_simp; (first | (go_at_call 65; (first | (refine (HOp.out _ H1.out).mono ?_) | (refine (HOp.out _ (H1a.out _)).mono ?_)); rintro e w1 ⟨rfl, rfl⟩) | (go_at_call 95; refine (HRp.out _ (H1a.out _)).mono ?_; rintro e w3 ⟨rfl, hB⟩; have HB := Lib.hid hB; clear hB)); (try go_wp2_with fail)) | go_simp); (refine hK.out _ _ ?_ (fun hHeld => ?_)); (focus ((try dsimp only); (first | done | (trivial)))); clear hK K; (try simp only [Act.put, List.setIfInBounds_toArray, List.set_cons_zero, List.set_cons_succ]))
        ((first | ((refine tree_yes (v := ?_) (by rfl) ?_ ?_); rotate_left; (focus (intro w hSw; (try dsimp only at hSw); go_simp; try (with_reducible rfl)))) | (refine tree_no (by rfl) ?_)); (try simp only [Act.put, List.setIfInBounds_toArray, List.set_cons_zero, List.set_cons_succ]))
        refine tree_done ?_
    all_goals
      have S3 := Lib.hid ((H1a.out _).below HB.out)
      have R3 := Lib.hid (Below.trans (Ran.new (Below.drew (Below.refl 0 w)) _) (HB.out.mono (Nat.zero_le _)))
      clear HB H1 H1a
      obtain ⟨c0, c1, c2, c3, c4, c5, c6, cz⟩ := S3.out.cells
      have HSt := Lib.hid (nseto K w3 n R rest HF.out.1 HF.out.2 S3.out)
      go_wp2_with fail
      refine HSt.out.mono ?_
      rintro e w4 ⟨⟨rfl, S4⟩, R4⟩
      have S4 := Lib.hid S4
      have R4 := Lib.hid (Below.trans R3.out R4)
      go_wp2_with fail
      go_ret
      exact ⟨⟨rfl, S4.out⟩, R4.out⟩
  · go_enter Tryz.func34, Tryz.ntmps34
    go_wp2_with fail
    have H1 := Lib.hid H0.out.drew
    have H1a := Lib.hid (fun o => H0.out.drew.old o)
    have hcv1 := conv_one ((w.alloc (.cells #[.int .u8 120] 5 (0, 0))).drew) w.heap.size 120 120 rfl (by decide) (by show (w.alloc _).cell? _ = _; rw [cell_at (heap_alloc_new w _)]; rfl)
    rw [show UInt8.ofNat 120 = 120 from rfl] at hcv1
    refine region_tree (S := (fun w' => True)) (.take 0 (.take 2 (.fork 1 (.step 3 (.step 4 (.step 5 (.take 6 (.nil))))) 3 (.fork 1 (.step 4 (.step 5 (.take 6 (.nil)))) 4 (.step 1 (.step 5 (.take 6 (.nil)))))))) (by kernel_rfl) (by kernel_rfl) (by kernel_rfl) ?_ ?_
    · ((try dsimp only); (first | done | (trivial)))
    simp only [Plan.ops, List.getElem?_toArray, List.getElem?_cons_zero, List.getElem?_cons_succ]
    ((first | ((refine tree_yes (v := ?_) (by rfl) ?_ ?_); rotate_left; (focus (intro w hSw; (try dsimp only at hSw); go_simp; try (with_reducible rfl)))) | (refine tree_no (by rfl) ?_)); (try simp only [Act.put, List.setIfInBounds_toArray, List.set_cons_zero, List.set_cons_succ]))
    ((first | ((refine tree_yes (v := ?_) (by rfl) ?_ ?_); rotate_left; (focus (intro w hSw; (try dsimp only at hSw); go_simp; try (with_reducible rfl)))) | (refine tree_no (by rfl) ?_)); (try simp only [Act.put, List.setIfInBounds_toArray, List.set_cons_zero, List.set_cons_succ]))
    refine tree_fork (fun K hK => ?_) (fun K hK => ?_)
    focus
      ((first | (go_simp; (first | (go_at_call 65; (first | (refine (HOp.out _ H1.out).mono ?_) | (refine (HOp.out _ (H1a.out _)).mono ?_)); rintro e w1 ⟨rfl, rfl⟩) | (go_at_call 95; refine (HRp.out _ (H1a.out _)).mono ?_; rintro e w3 ⟨rfl, hB⟩; have HB := Lib.hid hB; clear hB)); (try go_wp2_with fail)) | go_simp); (refine hK.out _ _ ?_ (fun hHeld => ?_)); (focus ((try dsimp only); (first | done | (trivial)))); clear hK K; (try simp only [Act.put, List.setIfInBounds_toArray, List.set_cons_zero, List.set_cons_succ]))
      ((refine tree_step (fun K hK => ?_)); (first | (go_simp; (first | (go_at_call 65; (first | (refine (HOp.out _ H1.out).mono ?_) | (refine (HOp.out _ (H1a.out _)).mono ?_)); rintro e w1 ⟨rfl, rfl⟩) | (go_at_call 95; refine (HRp.out _ (H1a.out _)).mono ?_; rintro e w3 ⟨rfl, hB⟩; have HB := Lib.hid hB; clear hB)); (try go_wp2_with fail)) | go_simp); (refine hK.out _ _ ?_ (fun hHeld => ?_)); (focus ((try dsimp only); (first | done | (trivial)))); clear hK K; (try simp only [Act.put, List.setIfInBounds_toArray, List.set_cons_zero, List.set_cons_succ]))
      ((refine tree_step (fun K hK => ?_)); (first | (go_simp; (first | (go_at_call 65; (first | (refine (HOp.out _ H1.out).mono ?_) | (refine (HOp.out _ (H1a.out _)).mono ?_)); rintro e w1 ⟨rfl, rfl⟩) | (go_at_call 95; refine (HRp.out _ (H1a.out _)).mono ?_; rintro e w3 ⟨rfl, hB⟩; have HB := Lib.hid hB; clear hB)); (try go_wp2_with fail)) | go_simp); (refine hK.out _ _ ?_ (fun hHeld => ?_)); (focus ((try dsimp only); (first | done | (trivial)))); clear hK K; (try simp only [Act.put, List.setIfInBounds_toArray, List.set_cons_zero, List.set_cons_succ]))
      ((refine tree_step (fun K hK => ?_)); (first | (go_simp; (first | (go_at_call 65; (first | (refine (HOp.out _ H1.out).mono ?_) | (refine (HOp.out _ (H1a.out _)).mono ?_)); rintro e w1 ⟨rfl, rfl⟩) | (go_at_call 95; refine (HRp.out _ (H1a.out _)).mono ?_; rintro e w3 ⟨rfl, hB⟩; have HB := Lib.hid hB; clear hB)); (try go_wp2_with fail)) | go_simp); (refine hK.out _ _ ?_ (fun hHeld => ?_)); (focus ((try dsimp only); (first | done | (trivial)))); clear hK K; (try simp only [Act.put, List.setIfInBounds_toArray, List.set_cons_zero, List.set_cons_succ]))
      ((first | ((refine tree_yes (v := ?_) (by rfl) ?_ ?_); rotate_left; (focus (intro w hSw; (try dsimp only at hSw); go_simp; try (with_reducible rfl)))) | (refine tree_no (by rfl) ?_)); (try simp only [Act.put, List.setIfInBounds_toArray, List.set_cons_zero, List.set_cons_succ]))
      refine tree_done ?_
    rotate_left 1
    focus
      ((first | (go_simp; (first | (go_at_call 65; (first | (refine (HOp.out _ H1.out).mono ?_) | (refine (HOp.out _ (H1a.out _)).mono ?_)); rintro e w1 ⟨rfl, rfl⟩) | (go_at_call 95; refine (HRp.out _ (H1a.out _)).mono ?_; rintro e w3 ⟨rfl, hB⟩; have HB := Lib.hid hB; clear hB)); (try go_wp2_with fail)) | go_simp); (refine hK.out _ _ ?_ (fun hHeld => ?_)); (focus ((try dsimp only); (first | done | (trivial)))); clear hK K; (try simp only [Act.put, List.setIfInBounds_toArray, List.set_cons_zero, List.set_cons_succ]))
      refine tree_fork (fun K hK => ?_) (fun K hK => ?_)
      focus
        ((first | (go_simp; (first | (go_at_call 65; (first | (refine (HOp.out _ H1.out).mono ?_) | (refine (HOp.out _ (H1a.out _)).mono ?_)); rintro e w1 ⟨rfl, rfl⟩) | (go_at_call 95; refine (HRp.out _ (H1a.out _)).mono ?_; rintro e w3 ⟨rfl, hB⟩; have HB := Lib.hid hB; clear hB)); (try go_wp2_with fail)) | go_simp); (refine hK.out _ _ ?_ (fun hHeld => ?_)); (focus ((try dsimp only); (first | done | (trivial)))); clear hK K; (try simp only [Act.put, List.setIfInBounds_toArray, List.set_cons_zero, List.set_cons_succ]))
        ((refine tree_step (fun K hK => ?_)); (first | (go_simp; (first | (go_at_call 65; (first | (refine (HOp.out _ H1.out).mono ?_) | (refine (HOp.out _ (H1a.out _)).mono ?_)); rintro e w1 ⟨rfl, rfl⟩) | (go_at_call 95; refine (HRp.out _ (H1a.out _)).mono ?_; rintro e w3 ⟨rfl, hB⟩; have HB := Lib.hid hB; clear hB)); (try go_wp2_with fail)) | go_simp); (refine hK.out _ _ ?_ (fun hHeld => ?_)); (focus ((try dsimp only); (first | done | (trivial)))); clear hK K; (try simp only [Act.put, List.setIfInBounds_toArray, List.set_cons_zero, List.set_cons_succ]))
        ((refine tree_step (fun K hK => ?_)); (first | (go_simp; (first | (go_at_call 65; (first | (refine (HOp.out _ H1.out).mono ?_) | (refine (HOp.out _ (H1a.out _)).mono ?_)); rintro e w1 ⟨rfl, rfl⟩) | (go_at_call 95; refine (HRp.out _ (H1a.out _)).mono ?_; rintro e w3 ⟨rfl, hB⟩; have HB := Lib.hid hB; clear hB)); (try go_wp2_with fail)) | go_simp); (refine hK.out _ _ ?_ (fun hHeld => ?_)); (focus ((try dsimp only); (first | done | (trivial)))); clear hK K; (try simp only [Act.put, List.setIfInBounds_toArray, List.set_cons_zero, List.set_cons_succ]))
        ((first | ((refine tree_yes (v := ?_) (by rfl) ?_ ?_); rotate_left; (focus (intro w hSw; (try dsimp only at hSw); go_simp; try (with_reducible rfl)))) | (refine tree_no (by rfl) ?_)); (try simp only [Act.put, List.setIfInBounds_toArray, List.set_cons_zero, List.set_cons_succ]))
        refine tree_done ?_
      rotate_left 1
      focus
        ((first | (go_simp; (first | (go_at_call 65; (first | (refine (HOp.out _ H1.out).mono ?_) | (refine (HOp.out _ (H1a.out _)).mono ?_)); rintro e w1 ⟨rfl, rfl⟩) | (go_at_call 95; refine (HRp.out _ (H1a.out _)).mono ?_; rintro e w3 ⟨rfl, hB⟩; have HB := Lib.hid hB; clear hB)); (try go_wp2_with fail)) | go_simp); (refine hK.out _ _ ?_ (fun hHeld => ?_)); (focus ((try dsimp only); (first | done | (trivial)))); clear hK K; (try simp only [Act.put, List.setIfInBounds_toArray, List.set_cons_zero, List.set_cons_succ]))
        ((refine tree_step (fun K hK => ?_)); (first | (go_simp; (first | (go_at_call 65; (first | (refine (HOp.out _ H1.out).mono ?_) | (refine (HOp.out _ (H1a.out _)).mono ?_)); rintro e w1 ⟨rfl, rfl⟩) | (go_at_call 95; refine (HRp.out _ (H1a.out _)).mono ?_; rintro e w3 ⟨rfl, hB⟩; have HB := Lib.hid hB; clear hB)); (try go_wp2_with fail)) | go_simp); (refine hK.out _ _ ?_ (fun hHeld => ?_)); (focus ((try dsimp only); (first | done | (trivial)))); clear hK K; (try simp only [Act.put, List.setIfInBounds_toArray, List.set_cons_zero, List.set_cons_succ]))
        ((refine tree_step (fun K hK => ?_)); (first | (go_simp; (first | (go_at_call 65; (first | (refine (HOp.out _ H1.out).mono ?_) | (refine (HOp.out _ (H1a.out _)).mono ?_)); rintro e w1 ⟨rfl, rfl⟩) | (go_at_call 95; refine (HRp.out _ (H1a.out _)).mono ?_; rintro e w3 ⟨rfl, hB⟩; have HB := Lib.hid hB; clear hB)); (try go_wp2_with fail)) | go_simp); (refine hK.out _ _ ?_ (fun hHeld => ?_)); (focus ((try dsimp only); (first | done | (trivial)))); clear hK K; (try simp only [Act.put, List.setIfInBounds_toArray, List.set_cons_zero, List.set_cons_succ]))
        ((first | ((refine tree_yes (v := ?_) (by rfl) ?_ ?_); rotate_left; (focus (intro w hSw; (try dsimp only at hSw); go_simp; try (with_reducible rfl)))) | (refine tree_no (by rfl) ?_)); (try simp only [Act.put, List.setIfInBounds_toArray, List.set_cons_zero, List.set_cons_succ]))
        refine tree_done ?_
    all_goals
      have S3 := Lib.hid ((H1a.out _).below HB.out)
      have R3 := Lib.hid (Below.trans (Ran.new (Below.drew (Below.refl 0 w)) _) (HB.out.mono (Nat.zero_le _)))
      clear HB H1 H1a
      obtain ⟨c0, c1, c2, c3, c4, c5, c6, cz⟩ := S3.out.cells
      have HSt := Lib.hid (nseto K w3 n R rest HF.out.1 HF.out.2 S3.out)
      go_wp2_with fail
      refine HSt.out.mono ?_
      rintro e w4 ⟨⟨rfl, S4⟩, R4⟩
      have S4 := Lib.hid S4
      have R4 := Lib.hid (Below.trans R3.out R4)
      go_wp2_with fail
      go_ret
      exact ⟨⟨rfl, S4.out⟩, R4.out⟩
end Go.Proofs.YtlmjidandjemjaaGreatDoor.State

