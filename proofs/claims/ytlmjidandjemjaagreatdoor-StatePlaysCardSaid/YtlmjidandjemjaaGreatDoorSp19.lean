/- HandlesPlays, part 19 of 29: the texts StSs, joined by a program. -/
import Derived.Test.YtlmjidandjemjaaGreatDoorSp18
namespace Go.Proofs.YtlmjidandjemjaaGreatDoor.State
open Go.RowKit Go.Proofs.YtlmjidandjemjaaGreatDoor Go.Proofs.YtlmjidandjemjaaGreatDoor.Hp Go.Proofs.YtlmjidandjemjaaGreatDoor.Undo
open Now (optL optS)
set_option linter.unusedVariables false
attribute [local go_sem] Oper.semAt_some

theorem app_run {P : Program} {ops : Array Oper} {rest : List Oper} {o : Oper} {a : Act} {Q : Exit → Act → World → Prop} {w w' : World} {v1 v2 r : Value} {t tx : TypeId} (hgd : o.guard = none) (s x : Operand)
    (ho : o.op = .call { callee := .builtin .append, args := #[s, x], argTypes := #[t, tx] }) (hp : a.eval s = v1) (hvx : a.eval x = v2)
    (hrun : (Builtin.append_ #[t, tx] o.type #[v1, v2]).run P w = .ok r w') (hk : wpList P ops Q rest (a.put o.dst r) w') : wpList P ops Q (o :: rest) a w :=
  wpList_plain hgd fun _ hK => by
    unfold Oper.wp execOp
    simp only [ho, resolve, invoke, builtin, Sem.run_bind, Sem.run_pure, Result.andThen_ok, List.map_toArray, List.map_cons, List.map_nil, hp, hvx, hrun]
    exact hK _ _ hk
set_option maxRecDepth 100000 in
set_option maxHeartbeats 8000000 in
theorem SetOption_on (K : Ctx) (n : Now) (b : UInt8) (w : World) (R : Hp) (hb : b ∈ optL) (ho : OOk n.s.o) (hg : Glob R) (hN : n.N ≤ 1000000) (hms : n.ms.length ≤ 1000000) (h : SAt K w n R) :
    Calls Tryz.prog 34 #[pp K.sb, .int .u8 ((b.toNat : Nat) : Int), .bool true] w (Lays K w R (n.put K.most { n.s with o := ⟨(optS n.s.o.data.toList b true).toArray⟩ })) := by
  have H0 := Lib.hid h
  have HOp := Lib.hid (fun W hW => Options_calls K n W R hW)
  have HRp : Hid (∀ W : World, SAt K W n R → Calls Tryz.prog 95 #[.string n.s.o, .string ⟨#[b]⟩, .string ⟨#[]⟩] W fun e w' => e = .returned (.string ⟨(optS (bs n.s.o) b false).toArray⟩) ∧ Below W.heap.size W w') := Lib.hid fun W hW => by
    obtain ⟨m, hm⟩ := Glob.at hW hg
    exact replace_calls n.s.o b m W ho hb hm
  have HF := Lib.hid (And.intro hN hms)
  obtain ⟨rest, hrest⟩ : ∃ rest : ByteArray, rest = ⟨(optS (bs n.s.o) b false).toArray⟩ := ⟨_, rfl⟩
  rw [← hrest] at HRp
  obtain ⟨all2, hall2⟩ : ∃ all2 : ByteArray, all2 = ⟨(optS (bs n.s.o) b true).toArray⟩ := ⟨_, rfl⟩
  rw [show (⟨(optS n.s.o.data.toList b true).toArray⟩ : ByteArray) = all2 from hall2.symm]
  have hL := opt_len _ ho.subs b hb
  have hrl : bs rest = optS (bs n.s.o) b false := by rw [hrest]
  have hrs : rest.size = (optS (bs n.s.o) b false).length := by rw [← hrl, bs_length]
  have hrs5 : rest.size ≤ 5 := by omega
  have HT : Hid (∀ (w5 : World) (p o k c : Nat), Sort.Holds u8V w5 p o (rowZ (bs rest ++ [b])) → (convert 129 9 (.slice (some ⟨p, o, none⟩) (rest.size + 1) c)).run Tryz.prog (Sort.putRow u8V (Sort.ahead w5 k) p o (Sort.insertionSort Sort.ltInt (rowZ (bs rest ++ [b])) 0 (rowZ (bs rest ++ [b])).size)) = .ok (.string all2) (Sort.putRow u8V (Sort.ahead w5 k) p o (Sort.insertionSort Sort.ltInt (rowZ (bs rest ++ [b])) 0 (rowZ (bs rest ++ [b])).size))) := Lib.hid fun w5 p o k c hH => by
    rw [hrl] at hH ⊢
    rw [hrs, hall2]
    exact sorted_text _ b ho.subs hb w5 p o k c hH
  have HRs := Lib.hid hrs5
  have hcase := opt_cases hb
  clear h hb ho hg hN hms hrest hall2 hL hrl hrs hrs5
  rcases hcase with rfl | rfl | rfl | rfl | rfl | rfl
  · go_enter Tryz.func34, Tryz.ntmps34
    go_wp2_with fail
    have H1 := Lib.hid H0.out.drew
    have H1a := Lib.hid (fun o => H0.out.drew.old o)
    have hcv1 := conv_one ((w.alloc (.cells #[.int .u8 67] 5 (0, 0))).drew) w.heap.size 67 67 rfl (by decide) (by show (w.alloc _).cell? _ = _; rw [cell_at (heap_alloc_new w _)]; rfl)
    rw [show UInt8.ofNat 67 = 67 from rfl] at hcv1
    refine region_tree (S := (fun w' => True)) (.take 0 (.take 2 (.fork 1 (.step 3 (.step 4 (.step 5 (.take 6 (.nil))))) 3 (.fork 1 (.step 4 (.step 5 (.take 6 (.nil)))) 4 (.step 1 (.step 5 (.take 6 (.nil)))))))) (by kernel_rfl) (by kernel_rfl) (by kernel_rfl) ?_ ?_
    · ((try dsimp only); (first | done | (trivial)))
    simp only [Plan.ops, List.getElem?_toArray, List.getElem?_cons_zero, List.getElem?_cons_succ]
    ((first | ((refine tree_yes (v := ?_) (by rfl) ?_ ?_); rotate_left; (focus (intro w hSw; (try dsimp only at hSw); go_simp; try (with_reducible rfl)))) | (refine tree_no (by rfl) ?_)); (try simp only [Act.put, List.setIfInBounds_toArray, List.set_cons_zero, List.set_cons_succ]))
    ((first | ((refine tree_yes (v := ?_) (by rfl) ?_ ?_); rotate_left; (focus (intro w hSw; (try dsimp only at hSw); go_simp; try (with_reducible rfl)))) | (refine tree_no (by rfl) ?_)); (try simp only [Act.put, List.setIfInBounds_toArray, List.set_cons_zero, List.set_cons_succ]))
    refine tree_fork (fun K hK => ?_) (fun K hK => ?_)
    focus
      ((first | (go_simp; (first | (go_at_call 65; (first | (refine (HOp.out _ H1.out).mono ?_) | (refine (HOp.out _ (H1a.out _)).mono ?_)); rintro e w1 ⟨rfl, rfl⟩) | (go_at_call 95; refine (HRp.out _ (H1a.out _)).mono ?_; rintro e w3 ⟨rfl, hB⟩; have HB := Lib.hid hB; clear hB)); (try go_wp2_with fail)) | go_simp); (refine hK.out _ _ ?_ (fun hHeld => ?_)); (focus ((try dsimp only); (first | done | (trivial)))); clear hK K; (try simp only [Act.put, List.setIfInBounds_toArray, List.set_cons_zero, List.set_cons_succ]))
      ((refine tree_step (fun K hK => ?_)); (first | (go_simp; (first | (go_at_call 65; (first | (refine (HOp.out _ H1.out).mono ?_) | (refine (HOp.out _ (H1a.out _)).mono ?_)); rintro e w1 ⟨rfl, rfl⟩) | (go_at_call 95; refine (HRp.out _ (H1a.out _)).mono ?_; rintro e w3 ⟨rfl, hB⟩; have HB := Lib.hid hB; clear hB)); (try go_wp2_with fail)) | go_simp); (refine hK.out _ _ ?_ (fun hHeld => ?_)); (focus ((try dsimp only); (first | done | (trivial)))); clear hK K; (try simp only [Act.put, List.setIfInBounds_toArray, List.set_cons_zero, List.set_cons_succ]))
      ((refine tree_step (fun K hK => ?_)); (first | (go_simp; (first | (go_at_call 65; (first | (refine (HOp.out _ H1.out).mono ?_) | (refine (HOp.out _ (H1a.out _)).mono ?_)); rintro e w1 ⟨rfl, rfl⟩) | (go_at_call 95; refine (HRp.out _ (H1a.out _)).mono ?_; rintro e w3 ⟨rfl, hB⟩; have HB := Lib.hid hB; clear hB)); (try go_wp2_with fail)) | go_simp); (refine hK.out _ _ ?_ (fun hHeld => ?_)); (focus ((try dsimp only); (first | done | (trivial)))); clear hK K; (try simp only [Act.put, List.setIfInBounds_toArray, List.set_cons_zero, List.set_cons_succ]))
      ((refine tree_step (fun K hK => ?_)); (first | (go_simp; (first | (go_at_call 65; (first | (refine (HOp.out _ H1.out).mono ?_) | (refine (HOp.out _ (H1a.out _)).mono ?_)); rintro e w1 ⟨rfl, rfl⟩) | (go_at_call 95; refine (HRp.out _ (H1a.out _)).mono ?_; rintro e w3 ⟨rfl, hB⟩; have HB := Lib.hid hB; clear hB)); (try go_wp2_with fail)) | go_simp); (refine hK.out _ _ ?_ (fun hHeld => ?_)); (focus ((try dsimp only); (first | done | (trivial)))); clear hK K; (try simp only [Act.put, List.setIfInBounds_toArray, List.set_cons_zero, List.set_cons_succ]))
      ((first | ((refine tree_yes (v := ?_) (by rfl) ?_ ?_); rotate_left; (focus (intro w hSw; (try dsimp only at hSw); go_simp; try (with_reducible rfl)))) | (refine tree_no (by rfl) ?_)); (try simp only [Act.put, List.setIfInBounds_toArray, List.set_cons_zero, List.set_cons_succ]))
      refine tree_done ?_
    rotate_left 1
    focus
      ((first | (go_simp; (first | (go_at_call 65; (first | (refine (HOp.out _ H1.out).mono ?_) | (refine (HOp.out _ (H1a.out _)).mono ?_)); rintro e w1 ⟨rfl, rfl⟩) | (go_at_call 95; refine (HRp.out _ (H1a.out _)).mono ?_; rintro e w3 ⟨rfl, hB⟩; have HB := Lib.hid hB; clear hB)); (try go_wp2_with fail)) | go_simp); (refine hK.out _ _ ?_ (fun hHeld => ?_)); (focus ((try dsimp only); (first | done | (trivial)))); clear hK K; (try simp only [Act.put, List.setIfInBounds_toArray, List.set_cons_zero, List.set_cons_succ]))
      refine tree_fork (fun K hK => ?_) (fun K hK => ?_)
      focus
        ((first | (go_simp; (first | (go_at_call 65; (first | (refine (HOp.out _ H1.out).mono ?_) | (refine (HOp.out _ (H1a.out _)).mono ?_)); rintro e w1 ⟨rfl, rfl⟩) | (go_at_call 95; refine (HRp.out _ (H1a.out _)).mono ?_; rintro e w3 ⟨rfl, hB⟩; have HB := Lib.hid hB; clear hB)); (try go_wp2_with fail)) | go_simp); (refine hK.out _ _ ?_ (fun hHeld => ?_)); (focus ((try dsimp only); (first | done | (trivial)))); clear hK K; (try simp only [Act.put, List.setIfInBounds_toArray, List.set_cons_zero, List.set_cons_succ]))
        ((refine tree_step (fun K hK => ?_)); (first | (go_simp; (first | (go_at_call 65; (first | (refine (HOp.out _ H1.out).mono ?_) | (refine (HOp.out _ (H1a.out _)).mono ?_)); rintro e w1 ⟨rfl, rfl⟩) | (go_at_call 95; refine (HRp.out _ (H1a.out _)).mono ?_; rintro e w3 ⟨rfl, hB⟩; have HB := Lib.hid hB; clear hB)); (try go_wp2_with fail)) | go_simp); (refine hK.out _ _ ?_ (fun hHeld => ?_)); (focus ((try dsimp only); (first | done | (trivial)))); clear hK K; (try simp only [Act.put, List.setIfInBounds_toArray, List.set_cons_zero, List.set_cons_succ]))
        ((refine tree_step (fun K hK => ?_)); (first | (go_simp; (first | (go_at_call 65; (first | (refine (HOp.out _ H1.out).mono ?_) | (refine (HOp.out _ (H1a.out _)).mono ?_)); rintro e w1 ⟨rfl, rfl⟩) | (go_at_call 95; refine (HRp.out _ (H1a.out _)).mono ?_; rintro e w3 ⟨rfl, hB⟩; have HB := Lib.hid hB; clear hB)); (try go_wp2_with fail)) | go_simp); (refine hK.out _ _ ?_ (fun hHeld => ?_)); (focus ((try dsimp only); (first | done | (trivial)))); clear hK K; (try simp only [Act.put, List.setIfInBounds_toArray, List.set_cons_zero, List.set_cons_succ]))
        ((first | ((refine tree_yes (v := ?_) (by rfl) ?_ ?_); rotate_left; (focus (intro w hSw; (try dsimp only at hSw); go_simp; try (with_reducible rfl)))) | (refine tree_no (by rfl) ?_)); (try simp only [Act.put, List.setIfInBounds_toArray, List.set_cons_zero, List.set_cons_succ]))
        refine tree_done ?_
      rotate_left 1
      focus
        ((first | (go_simp; (first | (go_at_call 65; (first | (refine (HOp.out _ H1.out).mono ?_) | (refine (HOp.out _ (H1a.out _)).mono ?_)); rintro e w1 ⟨rfl, rfl⟩) | (go_at_call 95; refine (HRp.out _ (H1a.out _)).mono ?_; rintro e w3 ⟨rfl, hB⟩; have HB := Lib.hid hB; clear hB)); (try go_wp2_with fail)) | go_simp); (refine hK.out _ _ ?_ (fun hHeld => ?_)); (focus ((try dsimp only); (first | done | (trivial)))); clear hK K; (try simp only [Act.put, List.setIfInBounds_toArray, List.set_cons_zero, List.set_cons_succ]))
        ((refine tree_step (fun K hK => ?_)); (first | (go_simp; (first | (go_at_call 65; (first | (refine (HOp.out _ H1.out).mono ?_) | (refine (HOp.out _ (H1a.out _)).mono ?_)); rintro e w1 ⟨rfl, rfl⟩) | (go_at_call 95; refine (HRp.out _ (H1a.out _)).mono ?_; rintro e w3 ⟨rfl, hB⟩; have HB := Lib.hid hB; clear hB)); (try go_wp2_with fail)) | go_simp); (refine hK.out _ _ ?_ (fun hHeld => ?_)); (focus ((try dsimp only); (first | done | (trivial)))); clear hK K; (try simp only [Act.put, List.setIfInBounds_toArray, List.set_cons_zero, List.set_cons_succ]))
        ((refine tree_step (fun K hK => ?_)); (first | (go_simp; (first | (go_at_call 65; (first | (refine (HOp.out _ H1.out).mono ?_) | (refine (HOp.out _ (H1a.out _)).mono ?_)); rintro e w1 ⟨rfl, rfl⟩) | (go_at_call 95; refine (HRp.out _ (H1a.out _)).mono ?_; rintro e w3 ⟨rfl, hB⟩; have HB := Lib.hid hB; clear hB)); (try go_wp2_with fail)) | go_simp); (refine hK.out _ _ ?_ (fun hHeld => ?_)); (focus ((try dsimp only); (first | done | (trivial)))); clear hK K; (try simp only [Act.put, List.setIfInBounds_toArray, List.set_cons_zero, List.set_cons_succ]))
        ((first | ((refine tree_yes (v := ?_) (by rfl) ?_ ?_); rotate_left; (focus (intro w hSw; (try dsimp only at hSw); go_simp; try (with_reducible rfl)))) | (refine tree_no (by rfl) ?_)); (try simp only [Act.put, List.setIfInBounds_toArray, List.set_cons_zero, List.set_cons_succ]))
        refine tree_done ?_
    all_goals
      have S3 := Lib.hid ((H1a.out _).below HB.out)
      have R3 := Lib.hid (Below.trans (Ran.new (Below.drew (Below.refl 0 w)) _) (HB.out.mono (Nat.zero_le _)))
      clear HB H1 H1a
      obtain ⟨cap4, w4, hcv, hs4, hB4, hcc, cur, hcur, hcs, hce⟩ := conv_bytes rest w3
      obtain ⟨p, o, cap5, w5, hap, hp, hB5, hH⟩ := app_bytes rest 67 w3 w4 cap4 HRs.out hs4 hB4 hcc cur hcur hcs hce
      have HH := Lib.hid hH
      have hds : (rowZ (bs rest ++ [67])).size = rest.size + 1 := by rw [rowZ_size, List.length_append, bs_length]; rfl
      have HSo := sort_calls p o cap5 (rowZ (bs rest ++ [67])) w5 hH (by rw [hds]; have := HRs.out; omega)
      rw [hds] at HSo
      have HSo := Lib.hid HSo
      have HT2 := HT.out w5 p o
      rw [hds] at HT2
      have HT2 := Lib.hid HT2
      have HB5 := Lib.hid (And.intro hB5 hp)
      have Hap := Lib.hid hap
      clear hH hs4 hB4 hcc hcur hcs hce hB5 hp hds hap
      go_wp2_with (at_builtin; go_loud (refine app_run rfl _ _ rfl rfl rfl Hap.out ?_))
      refine HSo.out.mono ?_
      rintro e w6 ⟨rfl, k6, hw6⟩
      have hcv6 := fun c => HT2.out k6 c HH.out
      rw [← hw6] at hcv6
      have hB6 : Below w3.heap.size w3 w6 := by rw [hw6]; exact below_row HB5.out.1 HB5.out.2 _ _ _
      have S6 := Lib.hid (S3.out.below hB6)
      have R6 := Lib.hid (Below.trans R3.out (hB6.mono (Nat.zero_le _)))
      obtain ⟨c0, c1, c2, c3, c4, c5, c6, cz⟩ := S6.out.cells
      have HSt := Lib.hid (nseto K w6 n R all2 HF.out.1 HF.out.2 S6.out)
      clear hw6 hB6 HT2 HSo HB5 S3 R3 hcv Hap HH
      go_wp2_with fail
      refine HSt.out.mono ?_
      rintro e w9 ⟨⟨rfl, S4⟩, R4⟩
      have S4 := Lib.hid S4
      have R4 := Lib.hid (Below.trans R6.out R4)
      go_wp2_with fail
      go_ret
      exact ⟨⟨rfl, S4.out⟩, R4.out⟩
  · go_enter Tryz.func34, Tryz.ntmps34
    go_wp2_with fail
    have H1 := Lib.hid H0.out.drew
    have H1a := Lib.hid (fun o => H0.out.drew.old o)
    have hcv1 := conv_one ((w.alloc (.cells #[.int .u8 97] 5 (0, 0))).drew) w.heap.size 97 97 rfl (by decide) (by show (w.alloc _).cell? _ = _; rw [cell_at (heap_alloc_new w _)]; rfl)
    rw [show UInt8.ofNat 97 = 97 from rfl] at hcv1
    refine region_tree (S := (fun w' => True)) (.take 0 (.take 2 (.fork 1 (.step 3 (.step 4 (.step 5 (.take 6 (.nil))))) 3 (.fork 1 (.step 4 (.step 5 (.take 6 (.nil)))) 4 (.step 1 (.step 5 (.take 6 (.nil)))))))) (by kernel_rfl) (by kernel_rfl) (by kernel_rfl) ?_ ?_
    · ((try dsimp only); (first | done | (trivial)))
    simp only [Plan.ops, List.getElem?_toArray, List.getElem?_cons_zero, List.getElem?_cons_succ]
    ((first | ((refine tree_yes (v := ?_) (by rfl) ?_ ?_); rotate_left; (focus (intro w hSw; (try dsimp only at hSw); go_simp; try (with_reducible rfl)))) | (refine tree_no (by rfl) ?_)); (try simp only [Act.put, List.setIfInBounds_toArray, List.set_cons_zero, List.set_cons_succ]))
    ((first | ((refine tree_yes (v := ?_) (by rfl) ?_ ?_); rotate_left; (focus (intro w hSw; (try dsimp only at hSw); go_simp; try (with_reducible rfl)))) | (refine tree_no (by rfl) ?_)); (try simp only [Act.put, List.setIfInBounds_toArray, List.set_cons_zero, List.set_cons_succ]))
    refine tree_fork (fun K hK => ?_) (fun K hK => ?_)
    focus
      ((first | (go_simp; (first | (go_at_call 65; (first | (refine (HOp.out _ H1.out).mono ?_) | (refine (HOp.out _ (H1a.out _)).mono ?_)); rintro e w1 ⟨rfl, rfl⟩) | (go_at_call 95; refine (HRp.out _ (H1a.out _)).mono ?_; rintro e w3 ⟨rfl, hB⟩; have HB := Lib.hid hB; clear hB)); (try go_wp2_with fail)) | go_simp); (refine hK.out _ _ ?_ (fun hHeld => ?_)); (focus ((try dsimp only); (first | done | (trivial)))); clear hK K; (try simp only [Act.put, List.setIfInBounds_toArray, List.set_cons_zero, List.set_cons_succ]))
      ((refine tree_step (fun K hK => ?_)); (first | (go_simp; (first | (go_at_call 65; (first | (refine (HOp.out _ H1.out).mono ?_) | (refine (HOp.out _ (H1a.out _)).mono ?_)); rintro e w1 ⟨rfl, rfl⟩) | (go_at_call 95; refine (HRp.out _ (H1a.out _)).mono ?_; rintro e w3 ⟨rfl, hB⟩; have HB := Lib.hid hB; clear hB)); (try go_wp2_with fail)) | go_simp); (refine hK.out _ _ ?_ (fun hHeld => ?_)); (focus ((try dsimp only); (first | done | (trivial)))); clear hK K; (try simp only [Act.put, List.setIfInBounds_toArray, List.set_cons_zero, List.set_cons_succ]))
      ((refine tree_step (fun K hK => ?_)); (first | (go_simp; (first | (go_at_call 65; (first | (refine (HOp.out _ H1.out).mono ?_) | (refine (HOp.out _ (H1a.out _)).mono ?_)); rintro e w1 ⟨rfl, rfl⟩) | (go_at_call 95; refine (HRp.out _ (H1a.out _)).mono ?_; rintro e w3 ⟨rfl, hB⟩; have HB := Lib.hid hB; clear hB)); (try go_wp2_with fail)) | go_simp); (refine hK.out _ _ ?_ (fun hHeld => ?_)); (focus ((try dsimp only); (first | done | (trivial)))); clear hK K; (try simp only [Act.put, List.setIfInBounds_toArray, List.set_cons_zero, List.set_cons_succ]))
      ((refine tree_step (fun K hK => ?_)); (first | (go_simp; (first | (go_at_call 65; (first | (refine (HOp.out _ H1.out).mono ?_) | (refine (HOp.out _ (H1a.out _)).mono ?_)); rintro e w1 ⟨rfl, rfl⟩) | (go_at_call 95; refine (HRp.out _ (H1a.out _)).mono ?_; rintro e w3 ⟨rfl, hB⟩; have HB := Lib.hid hB; clear hB)); (try go_wp2_with fail)) | go_simp); (refine hK.out _ _ ?_ (fun hHeld => ?_)); (focus ((try dsimp only); (first | done | (trivial)))); clear hK K; (try simp only [Act.put, List.setIfInBounds_toArray, List.set_cons_zero, List.set_cons_succ]))
      ((first | ((refine tree_yes (v := ?_) (by rfl) ?_ ?_); rotate_left; (focus (intro w hSw; (try dsimp only at hSw); go_simp; try (with_reducible rfl)))) | (refine tree_no (by rfl) ?_)); (try simp only [Act.put, List.setIfInBounds_toArray, List.set_cons_zero, List.set_cons_succ]))
      refine tree_done ?_
    rotate_left 1
    focus
      ((first | (go_simp; (first | (go_at_call 65; (first | (refine (HOp.out _ H1.out).mono ?_) | (refine (HOp.out _ (H1a.out _)).mono ?_)); rintro e w1 ⟨rfl, rfl⟩) | (go_at_call 95; refine (HRp.out _ (H1a.out _)).mono ?_; rintro e w3 ⟨rfl, hB⟩; have HB := Lib.hid hB; clear hB)); (try go_wp2_with fail)) | go_simp); (refine hK.out _ _ ?_ (fun hHeld => ?_)); (focus ((try dsimp only); (first | done | (trivial)))); clear hK K; (try simp only [Act.put, List.setIfInBounds_toArray, List.set_cons_zero, List.set_cons_succ]))
      refine tree_fork (fun K hK => ?_) (fun K hK => ?_)
      focus
        ((first | (go_simp; (first | (go_at_call 65; (first | (refine (HOp.out _ H1.out).mono ?_) | (refine (HOp.out _ (H1a.out _)).mono ?_)); rintro e w1 ⟨rfl, rfl⟩) | (go_at_call 95; refine (HRp.out _ (H1a.out _)).mono ?_; rintro e w3 ⟨rfl, hB⟩; have HB := Lib.hid hB; clear hB)); (try go_wp2_with fail)) | go_simp); (refine hK.out _ _ ?_ (fun hHeld => ?_)); (focus ((try dsimp only); (first | done | (trivial)))); clear hK K; (try simp only [Act.put, List.setIfInBounds_toArray, List.set_cons_zero, List.set_cons_succ]))
        ((refine tree_step (fun K hK => ?_)); (first | (go_simp; (first | (go_at_call 65; (first | (refine (HOp.out _ H1.out).mono ?_) | (refine (HOp.out _ (H1a.out _)).mono ?_)); rintro e w1 ⟨rfl, rfl⟩) | (go_at_call 95; refine (HRp.out _ (H1a.out _)).mono ?_; rintro e w3 ⟨rfl, hB⟩; have HB := Lib.hid hB; clear hB)); (try go_wp2_with fail)) | go_simp); (refine hK.out _ _ ?_ (fun hHeld => ?_)); (focus ((try dsimp only); (first | done | (trivial)))); clear hK K; (try simp only [Act.put, List.setIfInBounds_toArray, List.set_cons_zero, List.set_cons_succ]))
        ((refine tree_step (fun K hK => ?_)); (first | (go_simp; (first | (go_at_call 65; (first | (refine (HOp.out _ H1.out).mono ?_) | (refine (HOp.out _ (H1a.out _)).mono ?_)); rintro e w1 ⟨rfl, rfl⟩) | (go_at_call 95; refine (HRp.out _ (H1a.out _)).mono ?_; rintro e w3 ⟨rfl, hB⟩; have HB := Lib.hid hB; clear hB)); (try go_wp2_with fail)) | go_simp); (refine hK.out _ _ ?_ (fun hHeld => ?_)); (focus ((try dsimp only); (first | done | (trivial)))); clear hK K; (try simp only [Act.put, List.setIfInBounds_toArray, List.set_cons_zero, List.set_cons_succ]))
        ((first | ((refine tree_yes (v := ?_) (by rfl) ?_ ?_); rotate_left; (focus (intro w hSw; (try dsimp only at hSw); go_simp; try (with_reducible rfl)))) | (refine tree_no (by rfl) ?_)); (try simp only [Act.put, List.setIfInBounds_toArray, List.set_cons_zero, List.set_cons_succ]))
        refine tree_done ?_
      rotate_left 1
      focus
        ((first | (go_simp; (first | (go_at_call 65; (first | (refine (HOp.out _ H1.out).mono ?_) | (refine (HOp.out _ (H1a.out _)).mono ?_)); rintro e w1 ⟨rfl, rfl⟩) | (go_at_call 95; refine (HRp.out _ (H1a.out _)).mono ?_; rintro e w3 ⟨rfl, hB⟩; have HB := Lib.hid hB; clear hB)); (try go_wp2_with fail)) | go_simp); (refine hK.out _ _ ?_ (fun hHeld => ?_)); (focus ((try dsimp only); (first | done | (trivial)))); clear hK K; (try simp only [Act.put, List.setIfInBounds_toArray, List.set_cons_zero, List.set_cons_succ]))
        ((refine tree_step (fun K hK => ?_)); (first | (go_simp; (first | (go_at_call 65; (first | (refine (HOp.out _ H1.out).mono ?_) | (refine (HOp.out _ (H1a.out _)).mono ?_)); rintro e w1 ⟨rfl, rfl⟩) | (go_at_call 95; refine (HRp.out _ (H1a.out _)).mono ?_; rintro e w3 ⟨rfl, hB⟩; have HB := Lib.hid hB; clear hB)); (try go_wp2_with fail)) | go_simp); (refine hK.out _ _ ?_ (fun hHeld => ?_)); (focus ((try dsimp only); (first | done | (trivial)))); clear hK K; (try simp only [Act.put, List.setIfInBounds_toArray, List.set_cons_zero, List.set_cons_succ]))
        ((refine tree_step (fun K hK => ?_)); (first | (go_simp; (first | (go_at_call 65; (first | (refine (HOp.out _ H1.out).mono ?_) | (refine (HOp.out _ (H1a.out _)).mono ?_)); rintro e w1 ⟨rfl, rfl⟩) | (go_at_call 95; refine (HRp.out _ (H1a.out _)).mono ?_; rintro e w3 ⟨rfl, hB⟩; have HB := Lib.hid hB; clear hB)); (try go_wp2_with fail)) | go_simp); (refine hK.out _ _ ?_ (fun hHeld => ?_)); (focus ((try dsimp only); (first | done | (trivial)))); clear hK K; (try simp only [Act.put, List.setIfInBounds_toArray, List.set_cons_zero, List.set_cons_succ]))
        ((first | ((refine tree_yes (v := ?_) (by rfl) ?_ ?_); rotate_left; (focus (intro w hSw; (try dsimp only at hSw); go_simp; try (with_reducible rfl)))) | (refine tree_no (by rfl) ?_)); (try simp only [Act.put, List.setIfInBounds_toArray, List.set_cons_zero, List.set_cons_succ]))
        refine tree_done ?_
    all_goals
      have S3 := Lib.hid ((H1a.out _).below HB.out)
      have R3 := Lib.hid (Below.trans (Ran.new (Below.drew (Below.refl 0 w)) _) (HB.out.mono (Nat.zero_le _)))
      clear HB H1 H1a
      obtain ⟨cap4, w4, hcv, hs4, hB4, hcc, cur, hcur, hcs, hce⟩ := conv_bytes rest w3
      obtain ⟨p, o, cap5, w5, hap, hp, hB5, hH⟩ := app_bytes rest 97 w3 w4 cap4 HRs.out hs4 hB4 hcc cur hcur hcs hce
      have HH := Lib.hid hH
      have hds : (rowZ (bs rest ++ [97])).size = rest.size + 1 := by rw [rowZ_size, List.length_append, bs_length]; rfl
      have HSo := sort_calls p o cap5 (rowZ (bs rest ++ [97])) w5 hH (by rw [hds]; have := HRs.out; omega)
      rw [hds] at HSo
      have HSo := Lib.hid HSo
      have HT2 := HT.out w5 p o
      rw [hds] at HT2
      have HT2 := Lib.hid HT2
      have HB5 := Lib.hid (And.intro hB5 hp)
      have Hap := Lib.hid hap
      clear hH hs4 hB4 hcc hcur hcs hce hB5 hp hds hap
      go_wp2_with (at_builtin; go_loud (refine app_run rfl _ _ rfl rfl rfl Hap.out ?_))
      refine HSo.out.mono ?_
      rintro e w6 ⟨rfl, k6, hw6⟩
      have hcv6 := fun c => HT2.out k6 c HH.out
      rw [← hw6] at hcv6
      have hB6 : Below w3.heap.size w3 w6 := by rw [hw6]; exact below_row HB5.out.1 HB5.out.2 _ _ _
      have S6 := Lib.hid (S3.out.below hB6)
      have R6 := Lib.hid (Below.trans R3.out (hB6.mono (Nat.zero_le _)))
      obtain ⟨c0, c1, c2, c3, c4, c5, c6, cz⟩ := S6.out.cells
      have HSt := Lib.hid (nseto K w6 n R all2 HF.out.1 HF.out.2 S6.out)
      clear hw6 hB6 HT2 HSo HB5 S3 R3 hcv Hap HH
      go_wp2_with fail
      refine HSt.out.mono ?_
      rintro e w9 ⟨⟨rfl, S4⟩, R4⟩
      have S4 := Lib.hid S4
      have R4 := Lib.hid (Below.trans R6.out R4)
      go_wp2_with fail
      go_ret
      exact ⟨⟨rfl, S4.out⟩, R4.out⟩
  · go_enter Tryz.func34, Tryz.ntmps34
    go_wp2_with fail
    have H1 := Lib.hid H0.out.drew
    have H1a := Lib.hid (fun o => H0.out.drew.old o)
    have hcv1 := conv_one ((w.alloc (.cells #[.int .u8 101] 5 (0, 0))).drew) w.heap.size 101 101 rfl (by decide) (by show (w.alloc _).cell? _ = _; rw [cell_at (heap_alloc_new w _)]; rfl)
    rw [show UInt8.ofNat 101 = 101 from rfl] at hcv1
    refine region_tree (S := (fun w' => True)) (.take 0 (.take 2 (.fork 1 (.step 3 (.step 4 (.step 5 (.take 6 (.nil))))) 3 (.fork 1 (.step 4 (.step 5 (.take 6 (.nil)))) 4 (.step 1 (.step 5 (.take 6 (.nil)))))))) (by kernel_rfl) (by kernel_rfl) (by kernel_rfl) ?_ ?_
    · ((try dsimp only); (first | done | (trivial)))
    simp only [Plan.ops, List.getElem?_toArray, List.getElem?_cons_zero, List.getElem?_cons_succ]
    ((first | ((refine tree_yes (v := ?_) (by rfl) ?_ ?_); rotate_left; (focus (intro w hSw; (try dsimp only at hSw); go_simp; try (with_reducible rfl)))) | (refine tree_no (by rfl) ?_)); (try simp only [Act.put, List.setIfInBounds_toArray, List.set_cons_zero, List.set_cons_succ]))
    ((first | ((refine tree_yes (v := ?_) (by rfl) ?_ ?_); rotate_left; (focus (intro w hSw; (try dsimp only at hSw); go_simp; try (with_reducible rfl)))) | (refine tree_no (by rfl) ?_)); (try simp only [Act.put, List.setIfInBounds_toArray, List.set_cons_zero, List.set_cons_succ]))
    refine tree_fork (fun K hK => ?_) (fun K hK => ?_)
    focus
      ((first | (go_simp; (first | (go_at_call 65; (first | (refine (HOp.out _ H1.out).mono ?_) | (refine (HOp.out _ (H1a.out _)).mono ?_)); rintro e w1 ⟨rfl, rfl⟩) | (go_at_call 95; refine (HRp.out _ (H1a.out _)).mono ?_; rintro e w3 ⟨rfl, hB⟩; have HB := Lib.hid hB; clear hB)); (try go_wp2_with fail)) | go_simp); (refine hK.out _ _ ?_ (fun hHeld => ?_)); (focus ((try dsimp only); (first | done | (trivial)))); clear hK K; (try simp only [Act.put, List.setIfInBounds_toArray, List.set_cons_zero, List.set_cons_succ]))
      ((refine tree_step (fun K hK => ?_)); (first | (go_simp; (first | (go_at_call 65; (first | (refine (HOp.out _ H1.out).mono ?_) | (refine (HOp.out _ (H1a.out _)).mono ?_)); rintro e w1 ⟨rfl, rfl⟩) | (go_at_call 95; refine (HRp.out _ (H1a.out _)).mono ?_; rintro e w3 ⟨rfl, hB⟩; have HB := Lib.hid hB; clear hB)); (try go_wp2_with fail)) | go_simp); (refine hK.out _ _ ?_ (fun hHeld => ?_)); (focus ((try dsimp only); (first | done | (trivial)))); clear hK K; (try simp only [Act.put, List.setIfInBounds_toArray, List.set_cons_zero, List.set_cons_succ]))
      ((refine tree_step (fun K hK => ?_)); (first | (go_simp; (first | (go_at_call 65; (first | (refine (HOp.out _ H1.out).mono ?_) | (refine (HOp.out _ (H1a.out _)).mono ?_)); rintro e w1 ⟨rfl, rfl⟩) | (go_at_call 95; refine (HRp.out _ (H1a.out _)).mono ?_; rintro e w3 ⟨rfl, hB⟩; have HB := Lib.hid hB; clear hB)); (try go_wp2_with fail)) | go_simp); (refine hK.out _ _ ?_ (fun hHeld => ?_)); (focus ((try dsimp only); (first | done | (trivial)))); clear hK K; (try simp only [Act.put, List.setIfInBounds_toArray, List.set_cons_zero, List.set_cons_succ]))
      ((refine tree_step (fun K hK => ?_)); (first | (go_simp; (first | (go_at_call 65; (first | (refine (HOp.out _ H1.out).mono ?_) | (refine (HOp.out _ (H1a.out _)).mono ?_)); rintro e w1 ⟨rfl, rfl⟩) | (go_at_call 95; refine (HRp.out _ (H1a.out _)).mono ?_; rintro e w3 ⟨rfl, hB⟩; have HB := Lib.hid hB; clear hB)); (try go_wp2_with fail)) | go_simp); (refine hK.out _ _ ?_ (fun hHeld => ?_)); (focus ((try dsimp only); (first | done | (trivial)))); clear hK K; (try simp only [Act.put, List.setIfInBounds_toArray, List.set_cons_zero, List.set_cons_succ]))
      ((first | ((refine tree_yes (v := ?_) (by rfl) ?_ ?_); rotate_left; (focus (intro w hSw; (try dsimp only at hSw); go_simp; try (with_reducible rfl)))) | (refine tree_no (by rfl) ?_)); (try simp only [Act.put, List.setIfInBounds_toArray, List.set_cons_zero, List.set_cons_succ]))
      refine tree_done ?_
    rotate_left 1
    focus
      ((first | (go_simp; (first | (go_at_call 65; (first | (refine (HOp.out _ H1.out).mono ?_) | (refine (HOp.out _ (H1a.out _)).mono ?_)); rintro e w1 ⟨rfl, rfl⟩) | (go_at_call 95; refine (HRp.out _ (H1a.out _)).mono ?_; rintro e w3 ⟨rfl, hB⟩; have HB := Lib.hid hB; clear hB)); (try go_wp2_with fail)) | go_simp); (refine hK.out _ _ ?_ (fun hHeld => ?_)); (focus ((try dsimp only); (first | done | (trivial)))); clear hK K; (try simp only [Act.put, List.setIfInBounds_toArray, List.set_cons_zero, List.set_cons_succ]))
      refine tree_fork (fun K hK => ?_) (fun K hK => ?_)
      focus
        ((first | (go_simp; (first | (go_at_call 65; (first | (refine (HOp.out _ H1.out).mono ?_) | (refine (HOp.out _ (H1a.out _)).mono ?_)); rintro e w1 ⟨rfl, rfl⟩) | (go_at_call 95; refine (HRp.out _ (H1a.out _)).mono ?_; rintro e w3 ⟨rfl, hB⟩; have HB := Lib.hid hB; clear hB)); (try go_wp2_with fail)) | go_simp); (refine hK.out _ _ ?_ (fun hHeld => ?_)); (focus ((try dsimp only); (first | done | (trivial)))); clear hK K; (try simp only [Act.put, List.setIfInBounds_toArray, List.set_cons_zero, List.set_cons_succ]))
        ((refine tree_step (fun K hK => ?_)); (first | (go_simp; (first | (go_at_call 65; (first | (refine (HOp.out _ H1.out).mono ?_) | (refine (HOp.out _ (H1a.out _)).mono ?_)); rintro e w1 ⟨rfl, rfl⟩) | (go_at_call 95; refine (HRp.out _ (H1a.out _)).mono ?_; rintro e w3 ⟨rfl, hB⟩; have HB := Lib.hid hB; clear hB)); (try go_wp2_with fail)) | go_simp); (refine hK.out _ _ ?_ (fun hHeld => ?_)); (focus ((try dsimp only); (first | done | (trivial)))); clear hK K; (try simp only [Act.put, List.setIfInBounds_toArray, List.set_cons_zero, List.set_cons_succ]))
        ((refine tree_step (fun K hK => ?_)); (first | (go_simp; (first | (go_at_call 65; (first | (refine (HOp.out _ H1.out).mono ?_) | (refine (HOp.out _ (H1a.out _)).mono ?_)); rintro e w1 ⟨rfl, rfl⟩) | (go_at_call 95; refine (HRp.out _ (H1a.out _)).mono ?_; rintro e w3 ⟨rfl, hB⟩; have HB := Lib.hid hB; clear hB)); (try go_wp2_with fail)) | go_simp); (refine hK.out _ _ ?_ (fun hHeld => ?_)); (focus ((try dsimp only); (first | done | (trivial)))); clear hK K; (try simp only [Act.put, List.setIfInBounds_toArray, List.set_cons_zero, List.set_cons_succ]))
        ((first | ((refine tree_yes (v := ?_) (by rfl) ?_ ?_); rotate_left; (focus (intro w hSw; (try dsimp only at hSw); go_simp; try (with_reducible rfl)))) | (refine tree_no (by rfl) ?_)); (try simp only [Act.put, List.setIfInBounds_toArray, List.set_cons_zero, List.set_cons_succ]))
        refine tree_done ?_
      rotate_left 1
      focus
        ((first | (go_simp; (first | (go_at_call 65; (first | (refine (HOp.out _ H1.out).mono ?_) | (refine (HOp.out _ (H1a.out _)).mono ?_)); rintro e w1 ⟨rfl, rfl⟩) | (go_at_call 95; refine (HRp.out _ (H1a.out _)).mono ?_; rintro e w3 ⟨rfl, hB⟩; have HB := Lib.hid hB; clear hB)); (try go_wp2_with fail)) | go_simp); (refine hK.out _ _ ?_ (fun hHeld => ?_)); (focus ((try dsimp only); (first | done | (trivial)))); clear hK K; (try simp only [Act.put, List.setIfInBounds_toArray, List.set_cons_zero, List.set_cons_succ]))
        ((refine tree_step (fun K hK => ?_)); (first | (go_simp; (first | (go_at_call 65; (first | (refine (HOp.out _ H1.out).mono ?_) | (refine (HOp.out _ (H1a.out _)).mono ?_)); rintro e w1 ⟨rfl, rfl⟩) | (go_at_call 95; refine (HRp.out _ (H1a.out _)).mono ?_; rintro e w3 ⟨rfl, hB⟩; have HB := Lib.hid hB; clear hB)); (try go_wp2_with fail)) | go_simp); (refine hK.out _ _ ?_ (fun hHeld => ?_)); (focus ((try dsimp only); (first | done | (trivial)))); clear hK K; (try simp only [Act.put, List.setIfInBounds_toArray, List.set_cons_zero, List.set_cons_succ]))
        ((refine tree_step (fun K hK => ?_)); (first | (go_simp; (first | (go_at_call 65; (first | (refine (HOp.out _ H1.out).mono ?_) | (refine (HOp.out _ (H1a.out _)).mono ?_)); rintro e w1 ⟨rfl, rfl⟩) | (go_at_call 95; refine (HRp.out _ (H1a.out _)).mono ?_; rintro e w3 ⟨rfl, hB⟩; have HB := Lib.hid hB; clear hB)); (try go_wp2_with fail)) | go_simp); (refine hK.out _ _ ?_ (fun hHeld => ?_)); (focus ((try dsimp only); (first | done | (trivial)))); clear hK K; (try simp only [Act.put, List.setIfInBounds_toArray, List.set_cons_zero, List.set_cons_succ]))
        ((first | ((refine tree_yes (v := ?_) (by rfl) ?_ ?_); rotate_left; (focus (intro w hSw; (try dsimp only at hSw); go_simp; try (with_reducible rfl)))) | (refine tree_no (by rfl) ?_)); (try simp only [Act.put, List.setIfInBounds_toArray, List.set_cons_zero, List.set_cons_succ]))
        refine tree_done ?_
    all_goals
      have S3 := Lib.hid ((H1a.out _).below HB.out)
      have R3 := Lib.hid (Below.trans (Ran.new (Below.drew (Below.refl 0 w)) _) (HB.out.mono (Nat.zero_le _)))
      clear HB H1 H1a
      obtain ⟨cap4, w4, hcv, hs4, hB4, hcc, cur, hcur, hcs, hce⟩ := conv_bytes rest w3
      obtain ⟨p, o, cap5, w5, hap, hp, hB5, hH⟩ := app_bytes rest 101 w3 w4 cap4 HRs.out hs4 hB4 hcc cur hcur hcs hce
      have HH := Lib.hid hH
      have hds : (rowZ (bs rest ++ [101])).size = rest.size + 1 := by rw [rowZ_size, List.length_append, bs_length]; rfl
      have HSo := sort_calls p o cap5 (rowZ (bs rest ++ [101])) w5 hH (by rw [hds]; have := HRs.out; omega)
      rw [hds] at HSo
      have HSo := Lib.hid HSo
      have HT2 := HT.out w5 p o
      rw [hds] at HT2
      have HT2 := Lib.hid HT2
      have HB5 := Lib.hid (And.intro hB5 hp)
      have Hap := Lib.hid hap
      clear hH hs4 hB4 hcc hcur hcs hce hB5 hp hds hap
      go_wp2_with (at_builtin; go_loud (refine app_run rfl _ _ rfl rfl rfl Hap.out ?_))
      refine HSo.out.mono ?_
      rintro e w6 ⟨rfl, k6, hw6⟩
      have hcv6 := fun c => HT2.out k6 c HH.out
      rw [← hw6] at hcv6
      have hB6 : Below w3.heap.size w3 w6 := by rw [hw6]; exact below_row HB5.out.1 HB5.out.2 _ _ _
      have S6 := Lib.hid (S3.out.below hB6)
      have R6 := Lib.hid (Below.trans R3.out (hB6.mono (Nat.zero_le _)))
      obtain ⟨c0, c1, c2, c3, c4, c5, c6, cz⟩ := S6.out.cells
      have HSt := Lib.hid (nseto K w6 n R all2 HF.out.1 HF.out.2 S6.out)
      clear hw6 hB6 HT2 HSo HB5 S3 R3 hcv Hap HH
      go_wp2_with fail
      refine HSt.out.mono ?_
      rintro e w9 ⟨⟨rfl, S4⟩, R4⟩
      have S4 := Lib.hid S4
      have R4 := Lib.hid (Below.trans R6.out R4)
      go_wp2_with fail
      go_ret
      exact ⟨⟨rfl, S4.out⟩, R4.out⟩
  · go_enter Tryz.func34, Tryz.ntmps34
    go_wp2_with fail
    have H1 := Lib.hid H0.out.drew
    have H1a := Lib.hid (fun o => H0.out.drew.old o)
    have hcv1 := conv_one ((w.alloc (.cells #[.int .u8 102] 5 (0, 0))).drew) w.heap.size 102 102 rfl (by decide) (by show (w.alloc _).cell? _ = _; rw [cell_at (heap_alloc_new w _)]; rfl)
    rw [show UInt8.ofNat 102 = 102 from rfl] at hcv1
    refine region_tree (S := (fun w' => True)) (.take 0 (.take 2 (.fork 1 (.step 3 (.step 4 (.step 5 (.take 6 (.nil))))) 3 (.fork 1 (.step 4 (.step 5 (.take 6 (.nil)))) 4 (.step 1 (.step 5 (.take 6 (.nil)))))))) (by kernel_rfl) (by kernel_rfl) (by kernel_rfl) ?_ ?_
    · ((try dsimp only); (first | done | (trivial)))
    simp only [Plan.ops, List.getElem?_toArray, List.getElem?_cons_zero, List.getElem?_cons_succ]
    ((first | ((refine tree_yes (v := ?_) (by rfl) ?_ ?_); rotate_left; (focus (intro w hSw; (try dsimp only at hSw); go_simp; try (with_reducible rfl)))) | (refine tree_no (by rfl) ?_)); (try simp only [Act.put, List.setIfInBounds_toArray, List.set_cons_zero, List.set_cons_succ]))
    ((first | ((refine tree_yes (v := ?_) (by rfl) ?_ ?_); rotate_left; (focus (intro w hSw; (try dsimp only at hSw); go_simp; try (with_reducible rfl)))) | (refine tree_no (by rfl) ?_)); (try simp only [Act.put, List.setIfInBounds_toArray, List.set_cons_zero, List.set_cons_succ]))
    refine tree_fork (fun K hK => ?_) (fun K hK => ?_)
    focus
      ((first | (go_simp; (first | (go_at_call 65; (first | (refine (HOp.out _ H1.out).mono ?_) | (refine (HOp.out _ (H1a.out _)).mono ?_)); rintro e w1 ⟨rfl, rfl⟩) | (go_at_call 95; refine (HRp.out _ (H1a.out _)).mono ?_; rintro e w3 ⟨rfl, hB⟩; have HB := Lib.hid hB; clear hB)); (try go_wp2_with fail)) | go_simp); (refine hK.out _ _ ?_ (fun hHeld => ?_)); (focus ((try dsimp only); (first | done | (trivial)))); clear hK K; (try simp only [Act.put, List.setIfInBounds_toArray, List.set_cons_zero, List.set_cons_succ]))
      ((refine tree_step (fun K hK => ?_)); (first | (go_simp; (first | (go_at_call 65; (first | (refine (HOp.out _ H1.out).mono ?_) | (refine (HOp.out _ (H1a.out _)).mono ?_)); rintro e w1 ⟨rfl, rfl⟩) | (go_at_call 95; refine (HRp.out _ (H1a.out _)).mono ?_; rintro e w3 ⟨rfl, hB⟩; have HB := Lib.hid hB; clear hB)); (try go_wp2_with fail)) | go_simp); (refine hK.out _ _ ?_ (fun hHeld => ?_)); (focus ((try dsimp only); (first | done | (trivial)))); clear hK K; (try simp only [Act.put, List.setIfInBounds_toArray, List.set_cons_zero, List.set_cons_succ]))
      ((refine tree_step (fun K hK => ?_)); (first | (go_simp; (first | (go_at_call 65; (first | (refine (HOp.out _ H1.out).mono ?_) | (refine (HOp.out _ (H1a.out _)).mono ?_)); rintro e w1 ⟨rfl, rfl⟩) | (go_at_call 95; refine (HRp.out _ (H1a.out _)).mono ?_; rintro e w3 ⟨rfl, hB⟩; have HB := Lib.hid hB; clear hB)); (try go_wp2_with fail)) | go_simp); (refine hK.out _ _ ?_ (fun hHeld => ?_)); (focus ((try dsimp only); (first | done | (trivial)))); clear hK K; (try simp only [Act.put, List.setIfInBounds_toArray, List.set_cons_zero, List.set_cons_succ]))
      ((refine tree_step (fun K hK => ?_)); (first | (go_simp; (first | (go_at_call 65; (first | (refine (HOp.out _ H1.out).mono ?_) | (refine (HOp.out _ (H1a.out _)).mono ?_)); rintro e w1 ⟨rfl, rfl⟩) | (go_at_call 95; refine (HRp.out _ (H1a.out _)).mono ?_; rintro e w3 ⟨rfl, hB⟩; have HB := Lib.hid hB; clear hB)); (try go_wp2_with fail)) | go_simp); (refine hK.out _ _ ?_ (fun hHeld => ?_)); (focus ((try dsimp only); (first | done | (trivial)))); clear hK K; (try simp only [Act.put, List.setIfInBounds_toArray, List.set_cons_zero, List.set_cons_succ]))
      ((first | ((refine tree_yes (v := ?_) (by rfl) ?_ ?_); rotate_left; (focus (intro w hSw; (try dsimp only at hSw); go_simp; try (with_reducible rfl)))) | (refine tree_no (by rfl) ?_)); (try simp only [Act.put, List.setIfInBounds_toArray, List.set_cons_zero, List.set_cons_succ]))
      refine tree_done ?_
    rotate_left 1
    focus
      ((first | (go_simp; (first | (go_at_call 65; (first | (refine (HOp.out _ H1.out).mono ?_) | (refine (HOp.out _ (H1a.out _)).mono ?_)); rintro e w1 ⟨rfl, rfl⟩) | (go_at_call 95; refine (HRp.out _ (H1a.out _)).mono ?_; rintro e w3 ⟨rfl, hB⟩; have HB := Lib.hid hB; clear hB)); (try go_wp2_with fail)) | go_simp); (refine hK.out _ _ ?_ (fun hHeld => ?_)); (focus ((try dsimp only); (first | done | (trivial)))); clear hK K; (try simp only [Act.put, List.setIfInBounds_toArray, List.set_cons_zero, List.set_cons_succ]))
      refine tree_fork (fun K hK => ?_) (fun K hK => ?_)
      focus
        ((first | (go_simp; (first | (go_at_call 65; (first | (refine (HOp.out _ H1.out).mono ?_) | (refine (HOp.out _ (H1a.out _)).mono ?_)); rintro e w1 ⟨rfl, rfl⟩) | (go_at_call 95; refine (HRp.out _ (H1a.out _)).mono ?_; rintro e w3 ⟨rfl, hB⟩; have HB := Lib.hid hB; clear hB)); (try go_wp2_with fail)) | go_simp); (refine hK.out _ _ ?_ (fun hHeld => ?_)); (focus ((try dsimp only); (first | done | (trivial)))); clear hK K; (try simp only [Act.put, List.setIfInBounds_toArray, List.set_cons_zero, List.set_cons_succ]))
        ((refine tree_step (fun K hK => ?_)); (first | (go_simp; (first | (go_at_call 65; (first | (refine (HOp.out _ H1.out).mono ?_) | (refine (HOp.out _ (H1a.out _)).mono ?_)); rintro e w1 ⟨rfl, rfl⟩) | (go_at_call 95; refine (HRp.out _ (H1a.out _)).mono ?_; rintro e w3 ⟨rfl, hB⟩; have HB := Lib.hid hB; clear hB)); (try go_wp2_with fail)) | go_simp); (refine hK.out _ _ ?_ (fun hHeld => ?_)); (focus ((try dsimp only); (first | done | (trivial)))); clear hK K; (try simp only [Act.put, List.setIfInBounds_toArray, List.set_cons_zero, List.set_cons_succ]))
        ((refine tree_step (fun K hK => ?_)); (first | (go_simp; (first | (go_at_call 65; (first | (refine (HOp.out _ H1.out).mono ?_) | (refine (HOp.out _ (H1a.out _)).mono ?_)); rintro e w1 ⟨rfl, rfl⟩) | (go_at_call 95; refine (HRp.out _ (H1a.out _)).mono ?_; rintro e w3 ⟨rfl, hB⟩; have HB := Lib.hid hB; clear hB)); (try go_wp2_with fail)) | go_simp); (refine hK.out _ _ ?_ (fun hHeld => ?_)); (focus ((try dsimp only); (first | done | (trivial)))); clear hK K; (try simp only [Act.put, List.setIfInBounds_toArray, List.set_cons_zero, List.set_cons_succ]))
        ((first | ((refine tree_yes (v := ?_) (by rfl) ?_ ?_); rotate_left; (focus (intro w hSw; (try dsimp only at hSw); go_simp; try (with_reducible rfl)))) | (refine tree_no (by rfl) ?_)); (try simp only [Act.put, List.setIfInBounds_toArray, List.set_cons_zero, List.set_cons_succ]))
        refine tree_done ?_
      rotate_left 1
      focus
        ((first | (go_simp; (first | (go_at_call 65; (first | (refine (HOp.out _ H1.out).mono ?_) | (refine (HOp.out _ (H1a.out _)).mono ?_)); rintro e w1 ⟨rfl, rfl⟩) | (go_at_call 95; refine (HRp.out _ (H1a.out _)).mono ?_; rintro e w3 ⟨rfl, hB⟩; have HB := Lib.hid hB; clear hB)); (try go_wp2_with fail)) | go_simp); (refine hK.out _ _ ?_ (fun hHeld => ?_)); (focus ((try dsimp only); (first | done | (trivial)))); clear hK K; (try simp only [Act.put, List.setIfInBounds_toArray, List.set_cons_zero, List.set_cons_succ]))
        ((refine tree_step (fun K hK => ?_)); (first | (go_simp; (first | (go_at_call 65; (first | (refine (HOp.out _ H1.out).mono ?_) | (refine (HOp.out _ (H1a.out _)).mono ?_)); rintro e w1 ⟨rfl, rfl⟩) | (go_at_call 95; refine (HRp.out _ (H1a.out _)).mono ?_; rintro e w3 ⟨rfl, hB⟩; have HB := Lib.hid hB; clear hB)); (try go_wp2_with fail)) | go_simp); (refine hK.out _ _ ?_ (fun hHeld => ?_)); (focus ((try dsimp only); (first | done | (trivial)))); clear hK K; (try simp only [Act.put, List.setIfInBounds_toArray, List.set_cons_zero, List.set_cons_succ]))
        ((refine tree_step (fun K hK => ?_)); (first | (go_simp; (first | (go_at_call 65; (first | (refine (HOp.out _ H1.out).mono ?_) | (refine (HOp.out _ (H1a.out _)).mono ?_)); rintro e w1 ⟨rfl, rfl⟩) | (go_at_call 95; refine (HRp.out _ (H1a.out _)).mono ?_; rintro e w3 ⟨rfl, hB⟩; have HB := Lib.hid hB; clear hB)); (try go_wp2_with fail)) | go_simp); (refine hK.out _ _ ?_ (fun hHeld => ?_)); (focus ((try dsimp only); (first | done | (trivial)))); clear hK K; (try simp only [Act.put, List.setIfInBounds_toArray, List.set_cons_zero, List.set_cons_succ]))
        ((first | ((refine tree_yes (v := ?_) (by rfl) ?_ ?_); rotate_left; (focus (intro w hSw; (try dsimp only at hSw); go_simp; try (with_reducible rfl)))) | (refine tree_no (by rfl) ?_)); (try simp only [Act.put, List.setIfInBounds_toArray, List.set_cons_zero, List.set_cons_succ]))
        refine tree_done ?_
    all_goals
      have S3 := Lib.hid ((H1a.out _).below HB.out)
      have R3 := Lib.hid (Below.trans (Ran.new (Below.drew (Below.refl 0 w)) _) (HB.out.mono (Nat.zero_le _)))
      clear HB H1 H1a
      obtain ⟨cap4, w4, hcv, hs4, hB4, hcc, cur, hcur, hcs, hce⟩ := conv_bytes rest w3
      obtain ⟨p, o, cap5, w5, hap, hp, hB5, hH⟩ := app_bytes rest 102 w3 w4 cap4 HRs.out hs4 hB4 hcc cur hcur hcs hce
      have HH := Lib.hid hH
      have hds : (rowZ (bs rest ++ [102])).size = rest.size + 1 := by rw [rowZ_size, List.length_append, bs_length]; rfl
      have HSo := sort_calls p o cap5 (rowZ (bs rest ++ [102])) w5 hH (by rw [hds]; have := HRs.out; omega)
      rw [hds] at HSo
      have HSo := Lib.hid HSo
      have HT2 := HT.out w5 p o
      rw [hds] at HT2
      have HT2 := Lib.hid HT2
      have HB5 := Lib.hid (And.intro hB5 hp)
      have Hap := Lib.hid hap
      clear hH hs4 hB4 hcc hcur hcs hce hB5 hp hds hap
      go_wp2_with (at_builtin; go_loud (refine app_run rfl _ _ rfl rfl rfl Hap.out ?_))
      refine HSo.out.mono ?_
      rintro e w6 ⟨rfl, k6, hw6⟩
      have hcv6 := fun c => HT2.out k6 c HH.out
      rw [← hw6] at hcv6
      have hB6 : Below w3.heap.size w3 w6 := by rw [hw6]; exact below_row HB5.out.1 HB5.out.2 _ _ _
      have S6 := Lib.hid (S3.out.below hB6)
      have R6 := Lib.hid (Below.trans R3.out (hB6.mono (Nat.zero_le _)))
      obtain ⟨c0, c1, c2, c3, c4, c5, c6, cz⟩ := S6.out.cells
      have HSt := Lib.hid (nseto K w6 n R all2 HF.out.1 HF.out.2 S6.out)
      clear hw6 hB6 HT2 HSo HB5 S3 R3 hcv Hap HH
      go_wp2_with fail
      refine HSt.out.mono ?_
      rintro e w9 ⟨⟨rfl, S4⟩, R4⟩
      have S4 := Lib.hid S4
      have R4 := Lib.hid (Below.trans R6.out R4)
      go_wp2_with fail
      go_ret
      exact ⟨⟨rfl, S4.out⟩, R4.out⟩
  · go_enter Tryz.func34, Tryz.ntmps34
    go_wp2_with fail
    have H1 := Lib.hid H0.out.drew
    have H1a := Lib.hid (fun o => H0.out.drew.old o)
    have hcv1 := conv_one ((w.alloc (.cells #[.int .u8 117] 5 (0, 0))).drew) w.heap.size 117 117 rfl (by decide) (by show (w.alloc _).cell? _ = _; rw [cell_at (heap_alloc_new w _)]; rfl)
    rw [show UInt8.ofNat 117 = 117 from rfl] at hcv1
    refine region_tree (S := (fun w' => True)) (.take 0 (.take 2 (.fork 1 (.step 3 (.step 4 (.step 5 (.take 6 (.nil))))) 3 (.fork 1 (.step 4 (.step 5 (.take 6 (.nil)))) 4 (.step 1 (.step 5 (.take 6 (.nil)))))))) (by kernel_rfl) (by kernel_rfl) (by kernel_rfl) ?_ ?_
    · ((try dsimp only); (first | done | (trivial)))
    simp only [Plan.ops, List.getElem?_toArray, List.getElem?_cons_zero, List.getElem?_cons_succ]
    ((first | ((refine tree_yes (v := ?_) (by rfl) ?_ ?_); rotate_left; (focus (intro w hSw; (try dsimp only at hSw); go_simp; try (with_reducible rfl)))) | (refine tree_no (by rfl) ?_)); (try simp only [Act.put, List.setIfInBounds_toArray, List.set_cons_zero, List.set_cons_succ]))
    ((first | ((refine tree_yes (v := ?_) (by rfl) ?_ ?_); rotate_left; (focus (intro w hSw; (try dsimp only at hSw); go_simp; try (with_reducible rfl)))) | (refine tree_no (by rfl) ?_)); (try simp only [Act.put, List.setIfInBounds_toArray, List.set_cons_zero, List.set_cons_succ]))
    refine tree_fork (fun K hK => ?_) (fun K hK => ?_)
    focus
      ((first | (go_simp; (first | (go_at_call 65; (first | (refine (HOp.out _ H1.out).mono ?_) | (refine (HOp.out _ (H1a.out _)).mono ?_)); rintro e w1 ⟨rfl, rfl⟩) | (go_at_call 95; refine (HRp.out _ (H1a.out _)).mono ?_; rintro e w3 ⟨rfl, hB⟩; have HB := Lib.hid hB; clear hB)); (try go_wp2_with fail)) | go_simp); (refine hK.out _ _ ?_ (fun hHeld => ?_)); (focus ((try dsimp only); (first | done | (trivial)))); clear hK K; (try simp only [Act.put, List.setIfInBounds_toArray, List.set_cons_zero, List.set_cons_succ]))
      ((refine tree_step (fun K hK => ?_)); (first | (go_simp; (first | (go_at_call 65; (first | (refine (HOp.out _ H1.out).mono ?_) | (refine (HOp.out _ (H1a.out _)).mono ?_)); rintro e w1 ⟨rfl, rfl⟩) | (go_at_call 95; refine (HRp.out _ (H1a.out _)).mono ?_; rintro e w3 ⟨rfl, hB⟩; have HB := Lib.hid hB; clear hB)); (try go_wp2_with fail)) | go_simp); (refine hK.out _ _ ?_ (fun hHeld => ?_)); (focus ((try dsimp only); (first | done | (trivial)))); clear hK K; (try simp only [Act.put, List.setIfInBounds_toArray, List.set_cons_zero, List.set_cons_succ]))
      ((refine tree_step (fun K hK => ?_)); (first | (go_simp; (first | (go_at_call 65; (first | (refine (HOp.out _ H1.out).mono ?_) | (refine (HOp.out _ (H1a.out _)).mono ?_)); rintro e w1 ⟨rfl, rfl⟩) | (go_at_call 95; refine (HRp.out _ (H1a.out _)).mono ?_; rintro e w3 ⟨rfl, hB⟩; have HB := Lib.hid hB; clear hB)); (try go_wp2_with fail)) | go_simp); (refine hK.out _ _ ?_ (fun hHeld => ?_)); (focus ((try dsimp only); (first | done | (trivial)))); clear hK K; (try simp only [Act.put, List.setIfInBounds_toArray, List.set_cons_zero, List.set_cons_succ]))
      ((refine tree_step (fun K hK => ?_)); (first | (go_simp; (first | (go_at_call 65; (first | (refine (HOp.out _ H1.out).mono ?_) | (refine (HOp.out _ (H1a.out _)).mono ?_)); rintro e w1 ⟨rfl, rfl⟩) | (go_at_call 95; refine (HRp.out _ (H1a.out _)).mono ?_; rintro e w3 ⟨rfl, hB⟩; have HB := Lib.hid hB; clear hB)); (try go_wp2_with fail)) | go_simp); (refine hK.out _ _ ?_ (fun hHeld => ?_)); (focus ((try dsimp only); (first | done | (trivial)))); clear hK K; (try simp only [Act.put, List.setIfInBounds_toArray, List.set_cons_zero, List.set_cons_succ]))
      ((first | ((refine tree_yes (v := ?_) (by rfl) ?_ ?_); rotate_left; (focus (intro w hSw; (try dsimp only at hSw); go_simp; try (with_reducible rfl)))) | (refine tree_no (by rfl) ?_)); (try simp only [Act.put, List.setIfInBounds_toArray, List.set_cons_zero, List.set_cons_succ]))
      refine tree_done ?_
    rotate_left 1
    focus
      ((first | (go_simp; (first | (go_at_call 65; (first | (refine (HOp.out _ H1.out).mono ?_) | (refine (HOp.out _ (H1a.out _)).mono ?_)); rintro e w1 ⟨rfl, rfl⟩) | (go_at_call 95; refine (HRp.out _ (H1a.out _)).mono ?_; rintro e w3 ⟨rfl, hB⟩; have HB := Lib.hid hB; clear hB)); (try go_wp2_with fail)) | go_simp); (refine hK.out _ _ ?_ (fun hHeld => ?_)); (focus ((try dsimp only); (first | done | (trivial)))); clear hK K; (try simp only [Act.put, List.setIfInBounds_toArray, List.set_cons_zero, List.set_cons_succ]))
      refine tree_fork (fun K hK => ?_) (fun K hK => ?_)
      focus
        ((first | (go_simp; (first | (go_at_call 65; (first | (refine (HOp.out _ H1.out).mono ?_) | (refine (HOp.out _ (H1a.out _)).mono ?_)); rintro e w1 ⟨rfl, rfl⟩) | (go_at_call 95; refine (HRp.out _ (H1a.out _)).mono ?_; rintro e w3 ⟨rfl, hB⟩; have HB := Lib.hid hB; clear hB)); (try go_wp2_with fail)) | go_simp); (refine hK.out _ _ ?_ (fun hHeld => ?_)); (focus ((try dsimp only); (first | done | (trivial)))); clear hK K; (try simp only [Act.put, List.setIfInBounds_toArray, List.set_cons_zero, List.set_cons_succ]))
        ((refine tree_step (fun K hK => ?_)); (first | (go_simp; (first | (go_at_call 65; (first | (refine (HOp.out _ H1.out).mono ?_) | (refine (HOp.out _ (H1a.out _)).mono ?_)); rintro e w1 ⟨rfl, rfl⟩) | (go_at_call 95; refine (HRp.out _ (H1a.out _)).mono ?_; rintro e w3 ⟨rfl, hB⟩; have HB := Lib.hid hB; clear hB)); (try go_wp2_with fail)) | go_simp); (refine hK.out _ _ ?_ (fun hHeld => ?_)); (focus ((try dsimp only); (first | done | (trivial)))); clear hK K; (try simp only [Act.put, List.setIfInBounds_toArray, List.set_cons_zero, List.set_cons_succ]))
        ((refine tree_step (fun K hK => ?_)); (first | (go_simp; (first | (go_at_call 65; (first | (refine (HOp.out _ H1.out).mono ?_) | (refine (HOp.out _ (H1a.out _)).mono ?_)); rintro e w1 ⟨rfl, rfl⟩) | (go_at_call 95; refine (HRp.out _ (H1a.out _)).mono ?_; rintro e w3 ⟨rfl, hB⟩; have HB := Lib.hid hB; clear hB)); (try go_wp2_with fail)) | go_simp); (refine hK.out _ _ ?_ (fun hHeld => ?_)); (focus ((try dsimp only); (first | done | (trivial)))); clear hK K; (try simp only [Act.put, List.setIfInBounds_toArray, List.set_cons_zero, List.set_cons_succ]))
        ((first | ((refine tree_yes (v := ?_) (by rfl) ?_ ?_); rotate_left; (focus (intro w hSw; (try dsimp only at hSw); go_simp; try (with_reducible rfl)))) | (refine tree_no (by rfl) ?_)); (try simp only [Act.put, List.setIfInBounds_toArray, List.set_cons_zero, List.set_cons_succ]))
        refine tree_done ?_
      rotate_left 1
      focus
        ((first | (go_simp; (first | (go_at_call 65; (first | (refine (HOp.out _ H1.out).mono ?_) | (refine (HOp.out _ (H1a.out _)).mono ?_)); rintro e w1 ⟨rfl, rfl⟩) | (go_at_call 95; refine (HRp.out _ (H1a.out _)).mono ?_; rintro e w3 ⟨rfl, hB⟩; have HB := Lib.hid hB; clear hB)); (try go_wp2_with fail)) | go_simp); (refine hK.out _ _ ?_ (fun hHeld => ?_)); (focus ((try dsimp only); (first | done | (trivial)))); clear hK K; (try simp only [Act.put, List.setIfInBounds_toArray, List.set_cons_zero, List.set_cons_succ]))
        ((refine tree_step (fun K hK => ?_)); (first | (go_simp; (first | (go_at_call 65; (first | (refine (HOp.out _ H1.out).mono ?_) | (refine (HOp.out _ (H1a.out _)).mono ?_)); rintro e w1 ⟨rfl, rfl⟩) | (go_at_call 95; refine (HRp.out _ (H1a.out _)).mono ?_; rintro e w3 ⟨rfl, hB⟩; have HB := Lib.hid hB; clear hB)); (try go_wp2_with fail)) | go_simp); (refine hK.out _ _ ?_ (fun hHeld => ?_)); (focus ((try dsimp only); (first | done | (trivial)))); clear hK K; (try simp only [Act.put, List.setIfInBounds_toArray, List.set_cons_zero, List.set_cons_succ]))
        ((refine tree_step (fun K hK => ?_)); (first | (go_simp; (first | (go_at_call 65; (first | (refine (HOp.out _ H1.out).mono ?_) | (refine (HOp.out _ (H1a.out _)).mono ?_)); rintro e w1 ⟨rfl, rfl⟩) | (go_at_call 95; refine (HRp.out _ (H1a.out _)).mono ?_; rintro e w3 ⟨rfl, hB⟩; have HB := Lib.hid hB; clear hB)); (try go_wp2_with fail)) | go_simp); (refine hK.out _ _ ?_ (fun hHeld => ?_)); (focus ((try dsimp only); (first | done | (trivial)))); clear hK K; (try simp only [Act.put, List.setIfInBounds_toArray, List.set_cons_zero, List.set_cons_succ]))
        ((first | ((refine tree_yes (v := ?_) (by rfl) ?_ ?_); rotate_left; (focus (intro w hSw; (try dsimp only at hSw); go_simp; try (with_reducible rfl)))) | (refine tree_no (by rfl) ?_)); (try simp only [Act.put, List.setIfInBounds_toArray, List.set_cons_zero, List.set_cons_succ]))
        refine tree_done ?_
    all_goals
      have S3 := Lib.hid ((H1a.out _).below HB.out)
      have R3 := Lib.hid (Below.trans (Ran.new (Below.drew (Below.refl 0 w)) _) (HB.out.mono (Nat.zero_le _)))
      clear HB H1 H1a
      obtain ⟨cap4, w4, hcv, hs4, hB4, hcc, cur, hcur, hcs, hce⟩ := conv_bytes rest w3
      obtain ⟨p, o, cap5, w5, hap, hp, hB5, hH⟩ := app_bytes rest 117 w3 w4 cap4 HRs.out hs4 hB4 hcc cur hcur hcs hce
      have HH := Lib.hid hH
      have hds : (rowZ (bs rest ++ [117])).size = rest.size + 1 := by rw [rowZ_size, List.length_append, bs_length]; rfl
      have HSo := sort_calls p o cap5 (rowZ (bs rest ++ [117])) w5 hH (by rw [hds]; have := HRs.out; omega)
      rw [hds] at HSo
      have HSo := Lib.hid HSo
      have HT2 := HT.out w5 p o
      rw [hds] at HT2
      have HT2 := Lib.hid HT2
      have HB5 := Lib.hid (And.intro hB5 hp)
      have Hap := Lib.hid hap
      clear hH hs4 hB4 hcc hcur hcs hce hB5 hp hds hap
      go_wp2_with (at_builtin; go_loud (refine app_run rfl _ _ rfl rfl rfl Hap.out ?_))
      refine HSo.out.mono ?_
      rintro e w6 ⟨rfl, k6, hw6⟩
      have hcv6 := fun c => HT2.out k6 c HH.out
      rw [← hw6] at hcv6
      have hB6 : Below w3.heap.size w3 w6 := by rw [hw6]; exact below_row HB5.out.1 HB5.out.2 _ _ _
      have S6 := Lib.hid (S3.out.below hB6)
      have R6 := Lib.hid (Below.trans R3.out (hB6.mono (Nat.zero_le _)))
      obtain ⟨c0, c1, c2, c3, c4, c5, c6, cz⟩ := S6.out.cells
      have HSt := Lib.hid (nseto K w6 n R all2 HF.out.1 HF.out.2 S6.out)
      clear hw6 hB6 HT2 HSo HB5 S3 R3 hcv Hap HH
      go_wp2_with fail
      refine HSt.out.mono ?_
      rintro e w9 ⟨⟨rfl, S4⟩, R4⟩
      have S4 := Lib.hid S4
      have R4 := Lib.hid (Below.trans R6.out R4)
      go_wp2_with fail
      go_ret
      exact ⟨⟨rfl, S4.out⟩, R4.out⟩
  · go_enter Tryz.func34, Tryz.ntmps34
    go_wp2_with fail
    have H1 := Lib.hid H0.out.drew
    have H1a := Lib.hid (fun o => H0.out.drew.old o)
    have hcv1 := conv_one ((w.alloc (.cells #[.int .u8 120] 5 (0, 0))).drew) w.heap.size 120 120 rfl (by decide) (by show (w.alloc _).cell? _ = _; rw [cell_at (heap_alloc_new w _)]; rfl)
    rw [show UInt8.ofNat 120 = 120 from rfl] at hcv1
    refine region_tree (S := (fun w' => True)) (.take 0 (.take 2 (.fork 1 (.step 3 (.step 4 (.step 5 (.take 6 (.nil))))) 3 (.fork 1 (.step 4 (.step 5 (.take 6 (.nil)))) 4 (.step 1 (.step 5 (.take 6 (.nil)))))))) (by kernel_rfl) (by kernel_rfl) (by kernel_rfl) ?_ ?_
    · ((try dsimp only); (first | done | (trivial)))
    simp only [Plan.ops, List.getElem?_toArray, List.getElem?_cons_zero, List.getElem?_cons_succ]
    ((first | ((refine tree_yes (v := ?_) (by rfl) ?_ ?_); rotate_left; (focus (intro w hSw; (try dsimp only at hSw); go_simp; try (with_reducible rfl)))) | (refine tree_no (by rfl) ?_)); (try simp only [Act.put, List.setIfInBounds_toArray, List.set_cons_zero, List.set_cons_succ]))
    ((first | ((refine tree_yes (v := ?_) (by rfl) ?_ ?_); rotate_left; (focus (intro w hSw; (try dsimp only at hSw); go_simp; try (with_reducible rfl)))) | (refine tree_no (by rfl) ?_)); (try simp only [Act.put, List.setIfInBounds_toArray, List.set_cons_zero, List.set_cons_succ]))
    refine tree_fork (fun K hK => ?_) (fun K hK => ?_)
    focus
      ((first | (go_simp; (first | (go_at_call 65; (first | (refine (HOp.out _ H1.out).mono ?_) | (refine (HOp.out _ (H1a.out _)).mono ?_)); rintro e w1 ⟨rfl, rfl⟩) | (go_at_call 95; refine (HRp.out _ (H1a.out _)).mono ?_; rintro e w3 ⟨rfl, hB⟩; have HB := Lib.hid hB; clear hB)); (try go_wp2_with fail)) | go_simp); (refine hK.out _ _ ?_ (fun hHeld => ?_)); (focus ((try dsimp only); (first | done | (trivial)))); clear hK K; (try simp only [Act.put, List.setIfInBounds_toArray, List.set_cons_zero, List.set_cons_succ]))
      ((refine tree_step (fun K hK => ?_)); (first | (go_simp; (first | (go_at_call 65; (first | (refine (HOp.out _ H1.out).mono ?_) | (refine (HOp.out _ (H1a.out _)).mono ?_)); rintro e w1 ⟨rfl, rfl⟩) | (go_at_call 95; refine (HRp.out _ (H1a.out _)).mono ?_; rintro e w3 ⟨rfl, hB⟩; have HB := Lib.hid hB; clear hB)); (try go_wp2_with fail)) | go_simp); (refine hK.out _ _ ?_ (fun hHeld => ?_)); (focus ((try dsimp only); (first | done | (trivial)))); clear hK K; (try simp only [Act.put, List.setIfInBounds_toArray, List.set_cons_zero, List.set_cons_succ]))
      ((refine tree_step (fun K hK => ?_)); (first | (go_simp; (first | (go_at_call 65; (first | (refine (HOp.out _ H1.out).mono ?_) | (refine (HOp.out _ (H1a.out _)).mono ?_)); rintro e w1 ⟨rfl, rfl⟩) | (go_at_call 95; refine (HRp.out _ (H1a.out _)).mono ?_; rintro e w3 ⟨rfl, hB⟩; have HB := Lib.hid hB; clear hB)); (try go_wp2_with fail)) | go_simp); (refine hK.out _ _ ?_ (fun hHeld => ?_)); (focus ((try dsimp only); (first | done | (trivial)))); clear hK K; (try simp only [Act.put, List.setIfInBounds_toArray, List.set_cons_zero, List.set_cons_succ]))
      ((refine tree_step (fun K hK => ?_)); (first | (go_simp; (first | (go_at_call 65; (first | (refine (HOp.out _ H1.out).mono ?_) | (refine (HOp.out _ (H1a.out _)).mono ?_)); rintro e w1 ⟨rfl, rfl⟩) | (go_at_call 95; refine (HRp.out _ (H1a.out _)).mono ?_; rintro e w3 ⟨rfl, hB⟩; have HB := Lib.hid hB; clear hB)); (try go_wp2_with fail)) | go_simp); (refine hK.out _ _ ?_ (fun hHeld => ?_)); (focus ((try dsimp only); (first | done | (trivial)))); clear hK K; (try simp only [Act.put, List.setIfInBounds_toArray, List.set_cons_zero, List.set_cons_succ]))
      ((first | ((refine tree_yes (v := ?_) (by rfl) ?_ ?_); rotate_left; (focus (intro w hSw; (try dsimp only at hSw); go_simp; try (with_reducible rfl)))) | (refine tree_no (by rfl) ?_)); (try simp only [Act.put, List.setIfInBounds_toArray, List.set_cons_zero, List.set_cons_succ]))
      refine tree_done ?_
    rotate_left 1
    focus
      ((first | (go_simp; (first | (go_at_call 65; (first | (refine (HOp.out _ H1.out).mono ?_) | (refine (HOp.out _ (H1a.out _)).mono ?_)); rintro e w1 ⟨rfl, rfl⟩) | (go_at_call 95; refine (HRp.out _ (H1a.out _)).mono ?_; rintro e w3 ⟨rfl, hB⟩; have HB := Lib.hid hB; clear hB)); (try go_wp2_with fail)) | go_simp); (refine hK.out _ _ ?_ (fun hHeld => ?_)); (focus ((try dsimp only); (first | done | (trivial)))); clear hK K; (try simp only [Act.put, List.setIfInBounds_toArray, List.set_cons_zero, List.set_cons_succ]))
      refine tree_fork (fun K hK => ?_) (fun K hK => ?_)
      focus
        ((first | (go_simp; (first | (go_at_call 65; (first | (refine (HOp.out _ H1.out).mono ?_) | (refine (HOp.out _ (H1a.out _)).mono ?_)); rintro e w1 ⟨rfl, rfl⟩) | (go_at_call 95; refine (HRp.out _ (H1a.out _)).mono ?_; rintro e w3 ⟨rfl, hB⟩; have HB := Lib.hid hB; clear hB)); (try go_wp2_with fail)) | go_simp); (refine hK.out _ _ ?_ (fun hHeld => ?_)); (focus ((try dsimp only); (first | done | (trivial)))); clear hK K; (try simp only [Act.put, List.setIfInBounds_toArray, List.set_cons_zero, List.set_cons_succ]))
        ((refine tree_step (fun K hK => ?_)); (first | (go_simp; (first | (go_at_call 65; (first | (refine (HOp.out _ H1.out).mono ?_) | (refine (HOp.out _ (H1a.out _)).mono ?_)); rintro e w1 ⟨rfl, rfl⟩) | (go_at_call 95; refine (HRp.out _ (H1a.out _)).mono ?_; rintro e w3 ⟨rfl, hB⟩; have HB := Lib.hid hB; clear hB)); (try go_wp2_with fail)) | go_simp); (refine hK.out _ _ ?_ (fun hHeld => ?_)); (focus ((try dsimp only); (first | done | (trivial)))); clear hK K; (try simp only [Act.put, List.setIfInBounds_toArray, List.set_cons_zero, List.set_cons_succ]))
        ((refine tree_step (fun K hK => ?_)); (first | (go_simp; (first | (go_at_call 65; (first | (refine (HOp.out _ H1.out).mono ?_) | (refine (HOp.out _ (H1a.out _)).mono ?_)); rintro e w1 ⟨rfl, rfl⟩) | (go_at_call 95; refine (HRp.out _ (H1a.out _)).mono ?_; rintro e w3 ⟨rfl, hB⟩; have HB := Lib.hid hB; clear hB)); (try go_wp2_with fail)) | go_simp); (refine hK.out _ _ ?_ (fun hHeld => ?_)); (focus ((try dsimp only); (first | done | (trivial)))); clear hK K; (try simp only [Act.put, List.setIfInBounds_toArray, List.set_cons_zero, List.set_cons_succ]))
        ((first | ((refine tree_yes (v := ?_) (by rfl) ?_ ?_); rotate_left; (focus (intro w hSw; (try dsimp only at hSw); go_simp; try (with_reducible rfl)))) | (refine tree_no (by rfl) ?_)); (try simp only [Act.put, List.setIfInBounds_toArray, List.set_cons_zero, List.set_cons_succ]))
        refine tree_done ?_
      rotate_left 1
      focus
        ((first | (go_simp; (first | (go_at_call 65; (first | (refine (HOp.out _ H1.out).mono ?_) | (refine (HOp.out _ (H1a.out _)).mono ?_)); rintro e w1 ⟨rfl, rfl⟩) | (go_at_call 95; refine (HRp.out _ (H1a.out _)).mono ?_; rintro e w3 ⟨rfl, hB⟩; have HB := Lib.hid hB; clear hB)); (try go_wp2_with fail)) | go_simp); (refine hK.out _ _ ?_ (fun hHeld => ?_)); (focus ((try dsimp only); (first | done | (trivial)))); clear hK K; (try simp only [Act.put, List.setIfInBounds_toArray, List.set_cons_zero, List.set_cons_succ]))
        ((refine tree_step (fun K hK => ?_)); (first | (go_simp; (first | (go_at_call 65; (first | (refine (HOp.out _ H1.out).mono ?_) | (refine (HOp.out _ (H1a.out _)).mono ?_)); rintro e w1 ⟨rfl, rfl⟩) | (go_at_call 95; refine (HRp.out _ (H1a.out _)).mono ?_; rintro e w3 ⟨rfl, hB⟩; have HB := Lib.hid hB; clear hB)); (try go_wp2_with fail)) | go_simp); (refine hK.out _ _ ?_ (fun hHeld => ?_)); (focus ((try dsimp only); (first | done | (trivial)))); clear hK K; (try simp only [Act.put, List.setIfInBounds_toArray, List.set_cons_zero, List.set_cons_succ]))
        ((refine tree_step (fun K hK => ?_)); (first | (go_simp; (first | (go_at_call 65; (first | (refine (HOp.out _ H1.out).mono ?_) | (refine (HOp.out _ (H1a.out _)).mono ?_)); rintro e w1 ⟨rfl, rfl⟩) | (go_at_call 95; refine (HRp.out _ (H1a.out _)).mono ?_; rintro e w3 ⟨rfl, hB⟩; have HB := Lib.hid hB; clear hB)); (try go_wp2_with fail)) | go_simp); (refine hK.out _ _ ?_ (fun hHeld => ?_)); (focus ((try dsimp only); (first | done | (trivial)))); clear hK K; (try simp only [Act.put, List.setIfInBounds_toArray, List.set_cons_zero, List.set_cons_succ]))
        ((first | ((refine tree_yes (v := ?_) (by rfl) ?_ ?_); rotate_left; (focus (intro w hSw; (try dsimp only at hSw); go_simp; try (with_reducible rfl)))) | (refine tree_no (by rfl) ?_)); (try simp only [Act.put, List.setIfInBounds_toArray, List.set_cons_zero, List.set_cons_succ]))
        refine tree_done ?_
    all_goals
      have S3 := Lib.hid ((H1a.out _).below HB.out)
      have R3 := Lib.hid (Below.trans (Ran.new (Below.drew (Below.refl 0 w)) _) (HB.out.mono (Nat.zero_le _)))
      clear HB H1 H1a
      obtain ⟨cap4, w4, hcv, hs4, hB4, hcc, cur, hcur, hcs, hce⟩ := conv_bytes rest w3
      obtain ⟨p, o, cap5, w5, hap, hp, hB5, hH⟩ := app_bytes rest 120 w3 w4 cap4 HRs.out hs4 hB4 hcc cur hcur hcs hce
      have HH := Lib.hid hH
      have hds : (rowZ (bs rest ++ [120])).size = rest.size + 1 := by rw [rowZ_size, List.length_append, bs_length]; rfl
      have HSo := sort_calls p o cap5 (rowZ (bs rest ++ [120])) w5 hH (by rw [hds]; have := HRs.out; omega)
      rw [hds] at HSo
      have HSo := Lib.hid HSo
      have HT2 := HT.out w5 p o
      rw [hds] at HT2
      have HT2 := Lib.hid HT2
      have HB5 := Lib.hid (And.intro hB5 hp)
      have Hap := Lib.hid hap
      clear hH hs4 hB4 hcc hcur hcs hce hB5 hp hds hap
      go_wp2_with (at_builtin; go_loud (refine app_run rfl _ _ rfl rfl rfl Hap.out ?_))
      refine HSo.out.mono ?_
      rintro e w6 ⟨rfl, k6, hw6⟩
      have hcv6 := fun c => HT2.out k6 c HH.out
      rw [← hw6] at hcv6
      have hB6 : Below w3.heap.size w3 w6 := by rw [hw6]; exact below_row HB5.out.1 HB5.out.2 _ _ _
      have S6 := Lib.hid (S3.out.below hB6)
      have R6 := Lib.hid (Below.trans R3.out (hB6.mono (Nat.zero_le _)))
      obtain ⟨c0, c1, c2, c3, c4, c5, c6, cz⟩ := S6.out.cells
      have HSt := Lib.hid (nseto K w6 n R all2 HF.out.1 HF.out.2 S6.out)
      clear hw6 hB6 HT2 HSo HB5 S3 R3 hcv Hap HH
      go_wp2_with fail
      refine HSt.out.mono ?_
      rintro e w9 ⟨⟨rfl, S4⟩, R4⟩
      have S4 := Lib.hid S4
      have R4 := Lib.hid (Below.trans R6.out R4)
      go_wp2_with fail
      go_ret
      exact ⟨⟨rfl, S4.out⟩, R4.out⟩
theorem SetOption_calls (K : Ctx) (n : Now) (b : UInt8) (on : Bool) (w : World) (R : Hp) (ho : OOk n.s.o) (hg : Glob R) (hN : n.N ≤ 1000000) (hms : n.ms.length ≤ 1000000) (h : SAt K w n R) :
    Calls Tryz.prog 34 #[pp K.sb, .int .u8 ((b.toNat : Nat) : Int), .bool on] w (Lays K w R (n.setO K.most b on)) := by
  unfold Now.setO
  by_cases hb : b ∈ optL
  · rw [if_pos hb]
    cases on with
    | true => exact SetOption_on K n b w R hb ho hg hN hms h
    | false => exact SetOption_off K n b w R hb ho hg hN hms h
  · rw [if_neg hb]
    exact SetOption_bad K n b on w R hb h
end Go.Proofs.YtlmjidandjemjaaGreatDoor.State

