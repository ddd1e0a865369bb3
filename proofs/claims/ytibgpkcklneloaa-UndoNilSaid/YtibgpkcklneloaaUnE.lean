/- Undo walked: the notes behind the last mark are done from the last one on. -/
import Derived.Test.YtibgpkcklneloaaUnD
namespace Go.Proofs.Ytibgpkcklneloaa.Undo
open Go.RowKit Go.Proofs.Ytibgpkcklneloaa Go.Proofs.Ytibgpkcklneloaa.Hp
set_option linter.unusedVariables false
attribute [local go_sem] Oper.semAt_some

theorem run_slice_to {P : Program} (t e : TypeId) (i : TypeInfo) (ht : P.underlying t = some (.slice e)) (hi : P.info? e = some i) (ao : Option Addr) (len cap n : Nat) (hn : n ≤ cap) (w : World) :
    (Instr.slice t (.slice ao len cap) none (some (.int .i64 n)) none).run P w = .ok (.slice ao n cap) w := by
  have h1 : (0 : Int) ≤ n := by omega
  cases ao <;> simp [Instr.slice, Instr.sliceBounds, Instr.sliceBound, run_underlying ht, asIntOf, sizeOf, typeInfo, hi, h1, hn, Addr.add]
theorem fn_to (ao : Option Addr) (len cap n : Nat) (hn : n ≤ cap) (w : World) : (Instr.slice 77 (.slice ao len cap) none (some (.int .i64 n)) none).run Try.prog w = .ok (.slice ao n cap) w := by
  obtain ⟨i0, hi, hz0, hz1, hz2⟩ := info_parts infoFn
  exact run_slice_to _ _ i0 Try.underlying77 hi ao len cap n hn w
theorem int_to (ao : Option Addr) (len cap n : Nat) (hn : n ≤ cap) (w : World) : (Instr.slice 22 (.slice ao len cap) none (some (.int .i64 n)) none).run Try.prog w = .ok (.slice ao n cap) w := by
  obtain ⟨i0, hi, hz0, hz1, hz2⟩ := info_parts infoInt
  exact run_slice_to _ _ i0 Try.underlying22 hi ao len cap n hn w
theorem backward_calls (p : Option Addr) (n cap : Nat) (w : World) :
    Calls Try.prog 37 #[.slice p n cap] w fun e w' => e = .returned (.func (.func 51) #[] #[.pointer (some ⟨w.heap.size, 0, none⟩)]) ∧ w' = w.alloc (.cells #[.slice p n cap] 77 (0, 0)) := by
  go_enter Try.func37, Try.ntmps37
  go_wp2_with fail
  go_ret
  exact ⟨rfl, rfl⟩
/-- What each note does: I i: what there is when the notes from the i-th on have been done. -/
def Effects (I : Nat → Hp) (fs : List Value) (m : Nat) : Prop := ∀ i, m ≤ i → i < fs.length → ∃ k cs, fs.getD i undef = .func (.func k) #[] cs ∧ Enters Try.prog k ∧ ∀ (S : Hp) (W : World), Sat W (I (i + 1) * S) → Calls Try.prog k cs W fun e W' => (∃ v, e = .returned v) ∧ Sat W' (I i * S) ∧ Ran W W'
/-- Between two notes: how many have been done tells what there is. -/
def UInv (lb : Nat) (most nest : Int) (np : Option Addr) (nc : Nat) (mp : Option Addr) (mc : Nat) (fs : List Value) (ms : List Nat) (m : Nat) (I : Nat → Hp) (R : Hp) (pre : List (Nat × Value)) : Hp :=
  I (fs.length - pre.length) * (pts lb (logO most nest np fs.length nc mp (ms.length + 1) mc) * (marksA mp mc (ms ++ [m]) * R))
set_option maxRecDepth 100000 in
set_option maxHeartbeats 4000000 in
theorem undo_calls (lb : Nat) (most nest : Int) (fs : List Value) (ms : List Nat) (m : Nat) (w : World) (I : Nat → Hp) (R : Hp) (h : LogAt w lb most nest fs (ms ++ [m]) (I fs.length * R)) (hm : m ≤ fs.length) (hb : fs.length ≤ 1000000) (hms : ms.length ≤ 1000000) (he : Effects I fs m) :
    Calls Try.prog 13 #[.pointer (some ⟨lb, 0, none⟩)] w fun e w' => e = .returned (.int .i64 0) ∧ LogAt w' lb most nest (fs.take m) ms (I m * R) ∧ Ran w w' := by
  obtain ⟨np, nc, mp, mc, HS⟩ := h
  rw [show (ms ++ [m]).length = ms.length + 1 by simp] at HS
  obtain ⟨c0, c1, c2, c3, cz⟩ := log_cells HS.get
  have hMA := HS.perm (show _ = marksA mp mc (ms ++ [m]) * (pts lb (logO most nest np fs.length nc mp (ms.length + 1) mc) * (notes np fs.length nc fs * (I fs.length * R))) by ac_rfl)
  have hma := hMA.arr_len
  rw [show (ms ++ [m]).length = ms.length + 1 by simp] at hma
  obtain ⟨hma1, hma2, hma3⟩ := hma
  obtain ⟨mb, mo, rfl⟩ := hMA.arr_addr (by omega)
  have cm : w.cell? ⟨mb, mo + ms.length, none⟩ = some (.int .i64 (m : Int)) := by
    rw [hMA.arr_cell ms.length (by rw [List.length_map, List.length_append]; simp)]; simp
  have hna := (HS.perm (show _ = notes np fs.length nc fs * (pts lb (logO most nest np fs.length nc (some ⟨mb, mo, none⟩) (ms.length + 1) mc) * (marksA (some ⟨mb, mo, none⟩) mc (ms ++ [m]) * (I fs.length * R))) by ac_rfl)).arr_len
  obtain ⟨hna1, hna2, hna3⟩ := hna
  have hml : (((ms.length + 1 : Nat) : Int) == 0) = false := by rw [beq_eq_false_iff_ne]; omega
  have hml2 : (((ms.length : Int) + 1) == 0) = false := by rw [beq_eq_false_iff_ne]; omega
  have hsl : ∀ W, (Instr.slice 77 (.slice np fs.length nc) (some (.int .i64 (m : Int))) none none).run Try.prog W = .ok (.slice (tailA np m nc 1) (fs.length - m) (nc - m)) W := fun W => fn_from np fs.length nc m hm W
  have hmc : (ms.length : Int) ≤ mc := by omega
  have i0 : (0 : Int) ≤ ms.length := by omega
  have i1 : (ms.length : Int) < ((ms.length + 1 : Nat) : Int) := by omega
  have i2 : (ms.length : Int) < (ms.length : Int) + 1 := by omega
  have HS0 := Lib.hid HS
  have HE := Lib.hid he
  have Hna := Lib.hid (And.intro hna1 (And.intro hna2 hna3))
  have Hma2 := Lib.hid hma2
  clear HS hMA he hna1 hna2 hna3 hma1 hma2 hma3
  refine calls_of_wp_marks Try.func13 rfl ?_
  simp only [Try.ntmps13, List.size_toArray, List.length_cons, List.length_nil, Nat.reduceAdd, Nat.reduceSub, Array.replicate_succ, Array.replicate_zero, List.push_toArray, List.append_toArray, List.nil_append, List.cons_append]
  go_wp2_with fail
  refine (backward_calls _ _ _ _).mono ?_
  rintro e w1 ⟨rfl, hw1⟩
  obtain ⟨sb, hsb⟩ : ∃ sb, sb = w.heap.size := ⟨_, rfl⟩
  rw [← hsb]
  have S1 : Sat w1 (pts sb (.cells #[.slice (tailA np m nc 1) (fs.length - m) (nc - m)] 77 (0, 0)) * (pts lb (logO most nest np fs.length nc (some ⟨mb, mo, none⟩) (ms.length + 1) mc) * (notes np fs.length nc fs * (marksA (some ⟨mb, mo, none⟩) mc (ms ++ [m]) * (I fs.length * R))))) := by
    rw [hw1, hsb]; exact HS0.out.alloc _
  have R1 : Ran w w1 := by rw [hw1]; exact Ran.new (Below.refl _ _) _
  clear hw1 hsb c0 c1 c2 c3 cz cm HS0
  go_wp2_with fail
  have hI0 : Sat w1 (UInv lb most nest np nc (some ⟨mb, mo, none⟩) mc fs ms m I R [] * (pts sb (.cells #[.slice (tailA np m nc 1) (fs.length - m) (nc - m)] 77 (0, 0)) * (notes np fs.length nc fs * emp))) := by
    refine S1.perm ?_
    unfold UInv
    rw [sep_emp, List.length_nil, Nat.sub_zero]
    ac_rfl
  refine wp_rangeFunc_sat (n := 3) rfl (enters_of Try.func51 (by kernel_rfl) rfl) (back_iter (tailA np m nc 1) (nc - m) (fs.length - m) sb 3 (fs.drop m) (by omega) (notes np fs.length nc fs) emp (fun W S h k hk => notes_at hm W S h k hk)) (fun _ => rfl) (UInv lb most nest np nc (some ⟨mb, mo, none⟩) mc fs ms m I R) hI0 ?_ ?assign ?body ?done
  case assign =>
    intro l x W K hK
    gi_wp2
    exact hK
  case body =>
    rintro l pre x post S W hx hs
    obtain ⟨hlt, rfl⟩ := backs_at hx
    obtain ⟨k, cs, hf, hen, hef⟩ := HE.out (fs.length - 1 - pre.length) (by omega) (by omega)
    have hgd : (fs.drop m).getD (fs.length - m - 1 - pre.length) undef = .func (.func k) #[] cs := by
      rw [← hf, List.getD_eq_getElem?_getD, List.getD_eq_getElem?_getD, List.getElem?_drop, show m + (fs.length - m - 1 - pre.length) = fs.length - 1 - pre.length by omega]
    have hs2 := hs.perm (show _ = I (fs.length - 1 - pre.length + 1) * (pts lb (logO most nest np fs.length nc (some ⟨mb, mo, none⟩) (ms.length + 1) mc) * (marksA (some ⟨mb, mo, none⟩) mc (ms ++ [m]) * R) * S) by
      unfold UInv
      rw [show fs.length - pre.length = fs.length - 1 - pre.length + 1 by omega]
      ac_rfl)
    have hcall := hef _ W hs2
    have Hcall := Lib.hid hcall
    have hen2 : ∀ args w, (callFunc k args).run Try.prog w = .ok (.enter k args) w := hen
    rw [hgd]
    have Hpre : Hid (fs.length - (pre ++ [(fs.length - m - 1 - pre.length, Value.func (.func k) #[] cs)]).length = fs.length - 1 - pre.length) := Lib.hid (by rw [List.length_append]; simp; omega)
    clear hs hs2 hef hen hf hgd hx hcall
    gi_wp2
    refine ⟨trivial, (CallsIn.inRound l (callsIn_wide.2 Hcall.out)).mono ?_⟩
    rintro e w4 ⟨⟨v, rfl⟩, hs4, hr4⟩
    gi_wp2
    unfold UInv
    rw [Hpre.out]
    exact hs4.perm (by ac_rfl)
  case done =>
    rintro D W hs hr
    have hs1 := hs.perm (show _ = notes np fs.length nc fs * (pts D (.deferred (some [])) * (pts lb (logO most nest np fs.length nc (some ⟨mb, mo, none⟩) (ms.length + 1) mc) * (marksA (some ⟨mb, mo, none⟩) mc (ms ++ [m]) * (I m * (R * pts sb (.cells #[.slice (tailA np m nc 1) (fs.length - m) (nc - m)] 77 (0, 0))))))) by
      unfold UInv
      rw [backs_length, show fs.length - (fs.length - m) = m by omega, sep_emp]
      ac_rfl)
    obtain ⟨c0, c1, c2, c3, cz⟩ := log_cells (hs1.perm (show _ = pts lb (logO most nest np fs.length nc (some ⟨mb, mo, none⟩) (ms.length + 1) mc) * (notes np fs.length nc fs * (pts D (.deferred (some [])) * (marksA (some ⟨mb, mo, none⟩) mc (ms ++ [m]) * (I m * (R * pts sb (.cells #[.slice (tailA np m nc 1) (fs.length - m) (nc - m)] 77 (0, 0))))))) by ac_rfl)).get
    obtain ⟨vc, w5, fs', hclr, hl', ht', hs5, hr5⟩ := clear_notes hs1 hm 0
    have R5 : Ran w w5 := Below.trans (Below.trans R1 hr) hr5
    have hs6 := hs5.perm (show _ = pts lb (logO most nest np fs.length nc (some ⟨mb, mo, none⟩) (ms.length + 1) mc) * (pts D (.deferred (some [])) * (notes np fs'.length nc fs' * (marksA (some ⟨mb, mo, none⟩) mc (ms ++ [m]) * (I m * (R * pts sb (.cells #[.slice (tailA np m nc 1) (fs.length - m) (nc - m)] 77 (0, 0))))))) by ac_rfl)
    have Hs6 := Lib.hid hs6
    obtain ⟨d0, d1, d2, d3, dz⟩ := log_cells hs6.get
    have ht1 := fun W => fn_to np fs.length nc m (by have := Hna.out; omega) W
    have ht2 := fun W => int_to (some ⟨mb, mo, none⟩) (ms.length + 1) mc ms.length (by have := Hma2.out; omega) W
    have Hl := Lib.hid hl'
    have Ht := Lib.hid ht'
    clear hs hs1 hr hr5 hs5 hs6 hl' ht' hI0 S1
    go_wp2_with fail
    refine Go.Proofs.Ytibgpkcklneloaa.region_tree (S := (fun w' => True)) (.take 0 (.take 1 (.take 2 (.take 3 (.take 4 (.take 6 (.take 8 (.take 9 (.take 10 (.take 12 (.fork 5 (.take 7 (.step 11 (.take 13 (.take 14 (.take 15 (.step 16 (.take 17 (.take 18 (.step 19 (.nil)))))))))) 11 (.take 13 (.step 5 (.take 7 (.take 14 (.take 15 (.step 16 (.take 17 (.take 18 (.step 19 (.nil))))))))))))))))))))) (by kernel_rfl) (by kernel_rfl) (by kernel_rfl) ?_ ?_
    · ((try dsimp only); (first | done | (trivial)))
    simp only [Go.Proofs.Ytibgpkcklneloaa.Plan.ops, List.getElem?_toArray, List.getElem?_cons_zero, List.getElem?_cons_succ]
    ((first | ((refine Go.Proofs.Ytibgpkcklneloaa.tree_yes (v := ?_) (by rfl) ?_ ?_); rotate_left; (focus (intro w hSw; (try dsimp only at hSw); go_simp; try (with_reducible rfl)))) | (refine Go.Proofs.Ytibgpkcklneloaa.tree_no (by rfl) ?_)); (try simp only [Act.put, List.setIfInBounds_toArray, List.set_cons_zero, List.set_cons_succ]))
    ((first | ((refine Go.Proofs.Ytibgpkcklneloaa.tree_yes (v := ?_) (by rfl) ?_ ?_); rotate_left; (focus (intro w hSw; (try dsimp only at hSw); go_simp; try (with_reducible rfl)))) | (refine Go.Proofs.Ytibgpkcklneloaa.tree_no (by rfl) ?_)); (try simp only [Act.put, List.setIfInBounds_toArray, List.set_cons_zero, List.set_cons_succ]))
    ((first | ((refine Go.Proofs.Ytibgpkcklneloaa.tree_yes (v := ?_) (by rfl) ?_ ?_); rotate_left; (focus (intro w hSw; (try dsimp only at hSw); go_simp; try (with_reducible rfl)))) | (refine Go.Proofs.Ytibgpkcklneloaa.tree_no (by rfl) ?_)); (try simp only [Act.put, List.setIfInBounds_toArray, List.set_cons_zero, List.set_cons_succ]))
    ((first | ((refine Go.Proofs.Ytibgpkcklneloaa.tree_yes (v := ?_) (by rfl) ?_ ?_); rotate_left; (focus (intro w hSw; (try dsimp only at hSw); go_simp; try (with_reducible rfl)))) | (refine Go.Proofs.Ytibgpkcklneloaa.tree_no (by rfl) ?_)); (try simp only [Act.put, List.setIfInBounds_toArray, List.set_cons_zero, List.set_cons_succ]))
    ((first | ((refine Go.Proofs.Ytibgpkcklneloaa.tree_yes (v := ?_) (by rfl) ?_ ?_); rotate_left; (focus (intro w hSw; (try dsimp only at hSw); go_simp; try (with_reducible rfl)))) | (refine Go.Proofs.Ytibgpkcklneloaa.tree_no (by rfl) ?_)); (try simp only [Act.put, List.setIfInBounds_toArray, List.set_cons_zero, List.set_cons_succ]))
    ((first | ((refine Go.Proofs.Ytibgpkcklneloaa.tree_yes (v := ?_) (by rfl) ?_ ?_); rotate_left; (focus (intro w hSw; (try dsimp only at hSw); go_simp; try (with_reducible rfl)))) | (refine Go.Proofs.Ytibgpkcklneloaa.tree_no (by rfl) ?_)); (try simp only [Act.put, List.setIfInBounds_toArray, List.set_cons_zero, List.set_cons_succ]))
    ((first | ((refine Go.Proofs.Ytibgpkcklneloaa.tree_yes (v := ?_) (by rfl) ?_ ?_); rotate_left; (focus (intro w hSw; (try dsimp only at hSw); go_simp; try (with_reducible rfl)))) | (refine Go.Proofs.Ytibgpkcklneloaa.tree_no (by rfl) ?_)); (try simp only [Act.put, List.setIfInBounds_toArray, List.set_cons_zero, List.set_cons_succ]))
    ((first | ((refine Go.Proofs.Ytibgpkcklneloaa.tree_yes (v := ?_) (by rfl) ?_ ?_); rotate_left; (focus (intro w hSw; (try dsimp only at hSw); go_simp; try (with_reducible rfl)))) | (refine Go.Proofs.Ytibgpkcklneloaa.tree_no (by rfl) ?_)); (try simp only [Act.put, List.setIfInBounds_toArray, List.set_cons_zero, List.set_cons_succ]))
    ((first | ((refine Go.Proofs.Ytibgpkcklneloaa.tree_yes (v := ?_) (by rfl) ?_ ?_); rotate_left; (focus (intro w hSw; (try dsimp only at hSw); go_simp; try (with_reducible rfl)))) | (refine Go.Proofs.Ytibgpkcklneloaa.tree_no (by rfl) ?_)); (try simp only [Act.put, List.setIfInBounds_toArray, List.set_cons_zero, List.set_cons_succ]))
    ((first | ((refine Go.Proofs.Ytibgpkcklneloaa.tree_yes (v := ?_) (by rfl) ?_ ?_); rotate_left; (focus (intro w hSw; (try dsimp only at hSw); go_simp; try (with_reducible rfl)))) | (refine Go.Proofs.Ytibgpkcklneloaa.tree_no (by rfl) ?_)); (try simp only [Act.put, List.setIfInBounds_toArray, List.set_cons_zero, List.set_cons_succ]))
    refine Go.Proofs.Ytibgpkcklneloaa.tree_fork (fun K hK => ?_) (fun K hK => ?_)
    focus
      ((first | (fail) | (go_simp; (fail); (try go_wp2_with fail)) | go_simp); (refine hK.out _ _ ?_ (fun hHeld => ?_)); (focus ((try dsimp only); (first | done | (trivial)))); clear hK K; (try simp only [Act.put, List.setIfInBounds_toArray, List.set_cons_zero, List.set_cons_succ]))
      ((first | ((refine Go.Proofs.Ytibgpkcklneloaa.tree_yes (v := ?_) (by rfl) ?_ ?_); rotate_left; (focus (intro w hSw; (try dsimp only at hSw); go_simp; try (with_reducible rfl)))) | (refine Go.Proofs.Ytibgpkcklneloaa.tree_no (by rfl) ?_)); (try simp only [Act.put, List.setIfInBounds_toArray, List.set_cons_zero, List.set_cons_succ]))
      ((refine Go.Proofs.Ytibgpkcklneloaa.tree_step (fun K hK => ?_)); (first | (fail) | (go_simp; (fail); (try go_wp2_with fail)) | go_simp); (refine hK.out _ _ ?_ (fun hHeld => ?_)); (focus ((try dsimp only); (first | done | (trivial)))); clear hK K; (try simp only [Act.put, List.setIfInBounds_toArray, List.set_cons_zero, List.set_cons_succ]))
      ((first | ((refine Go.Proofs.Ytibgpkcklneloaa.tree_yes (v := ?_) (by rfl) ?_ ?_); rotate_left; (focus (intro w hSw; (try dsimp only at hSw); go_simp; try (with_reducible rfl)))) | (refine Go.Proofs.Ytibgpkcklneloaa.tree_no (by rfl) ?_)); (try simp only [Act.put, List.setIfInBounds_toArray, List.set_cons_zero, List.set_cons_succ]))
      ((first | ((refine Go.Proofs.Ytibgpkcklneloaa.tree_yes (v := ?_) (by rfl) ?_ ?_); rotate_left; (focus (intro w hSw; (try dsimp only at hSw); go_simp; try (with_reducible rfl)))) | (refine Go.Proofs.Ytibgpkcklneloaa.tree_no (by rfl) ?_)); (try simp only [Act.put, List.setIfInBounds_toArray, List.set_cons_zero, List.set_cons_succ]))
      ((first | ((refine Go.Proofs.Ytibgpkcklneloaa.tree_yes (v := ?_) (by rfl) ?_ ?_); rotate_left; (focus (intro w hSw; (try dsimp only at hSw); go_simp; try (with_reducible rfl)))) | (refine Go.Proofs.Ytibgpkcklneloaa.tree_no (by rfl) ?_)); (try simp only [Act.put, List.setIfInBounds_toArray, List.set_cons_zero, List.set_cons_succ]))
      ((refine Go.Proofs.Ytibgpkcklneloaa.tree_step (fun K hK => ?_)); (first | (fail) | (go_simp; (fail); (try go_wp2_with fail)) | go_simp); (refine hK.out _ _ ?_ (fun hHeld => ?_)); (focus ((try dsimp only); (first | done | (trivial)))); clear hK K; (try simp only [Act.put, List.setIfInBounds_toArray, List.set_cons_zero, List.set_cons_succ]))
      ((first | ((refine Go.Proofs.Ytibgpkcklneloaa.tree_yes (v := ?_) (by rfl) ?_ ?_); rotate_left; (focus (intro w hSw; (try dsimp only at hSw); go_simp; try (with_reducible rfl)))) | (refine Go.Proofs.Ytibgpkcklneloaa.tree_no (by rfl) ?_)); (try simp only [Act.put, List.setIfInBounds_toArray, List.set_cons_zero, List.set_cons_succ]))
      ((first | ((refine Go.Proofs.Ytibgpkcklneloaa.tree_yes (v := ?_) (by rfl) ?_ ?_); rotate_left; (focus (intro w hSw; (try dsimp only at hSw); go_simp; try (with_reducible rfl)))) | (refine Go.Proofs.Ytibgpkcklneloaa.tree_no (by rfl) ?_)); (try simp only [Act.put, List.setIfInBounds_toArray, List.set_cons_zero, List.set_cons_succ]))
      ((refine Go.Proofs.Ytibgpkcklneloaa.tree_step (fun K hK => ?_)); (first | (fail) | (go_simp; (fail); (try go_wp2_with fail)) | go_simp); (refine hK.out _ _ ?_ (fun hHeld => ?_)); (focus ((try dsimp only); (first | done | (trivial)))); clear hK K; (try simp only [Act.put, List.setIfInBounds_toArray, List.set_cons_zero, List.set_cons_succ]))
      refine Go.Proofs.Ytibgpkcklneloaa.tree_done ?_
    rotate_left 1
    focus
      ((first | (fail) | (go_simp; (fail); (try go_wp2_with fail)) | go_simp); (refine hK.out _ _ ?_ (fun hHeld => ?_)); (focus ((try dsimp only); (first | done | (trivial)))); clear hK K; (try simp only [Act.put, List.setIfInBounds_toArray, List.set_cons_zero, List.set_cons_succ]))
      ((first | ((refine Go.Proofs.Ytibgpkcklneloaa.tree_yes (v := ?_) (by rfl) ?_ ?_); rotate_left; (focus (intro w hSw; (try dsimp only at hSw); go_simp; try (with_reducible rfl)))) | (refine Go.Proofs.Ytibgpkcklneloaa.tree_no (by rfl) ?_)); (try simp only [Act.put, List.setIfInBounds_toArray, List.set_cons_zero, List.set_cons_succ]))
      ((refine Go.Proofs.Ytibgpkcklneloaa.tree_step (fun K hK => ?_)); (first | (fail) | (go_simp; (fail); (try go_wp2_with fail)) | go_simp); (refine hK.out _ _ ?_ (fun hHeld => ?_)); (focus ((try dsimp only); (first | done | (trivial)))); clear hK K; (try simp only [Act.put, List.setIfInBounds_toArray, List.set_cons_zero, List.set_cons_succ]))
      ((first | ((refine Go.Proofs.Ytibgpkcklneloaa.tree_yes (v := ?_) (by rfl) ?_ ?_); rotate_left; (focus (intro w hSw; (try dsimp only at hSw); go_simp; try (with_reducible rfl)))) | (refine Go.Proofs.Ytibgpkcklneloaa.tree_no (by rfl) ?_)); (try simp only [Act.put, List.setIfInBounds_toArray, List.set_cons_zero, List.set_cons_succ]))
      ((first | ((refine Go.Proofs.Ytibgpkcklneloaa.tree_yes (v := ?_) (by rfl) ?_ ?_); rotate_left; (focus (intro w hSw; (try dsimp only at hSw); go_simp; try (with_reducible rfl)))) | (refine Go.Proofs.Ytibgpkcklneloaa.tree_no (by rfl) ?_)); (try simp only [Act.put, List.setIfInBounds_toArray, List.set_cons_zero, List.set_cons_succ]))
      ((first | ((refine Go.Proofs.Ytibgpkcklneloaa.tree_yes (v := ?_) (by rfl) ?_ ?_); rotate_left; (focus (intro w hSw; (try dsimp only at hSw); go_simp; try (with_reducible rfl)))) | (refine Go.Proofs.Ytibgpkcklneloaa.tree_no (by rfl) ?_)); (try simp only [Act.put, List.setIfInBounds_toArray, List.set_cons_zero, List.set_cons_succ]))
      ((refine Go.Proofs.Ytibgpkcklneloaa.tree_step (fun K hK => ?_)); (first | (fail) | (go_simp; (fail); (try go_wp2_with fail)) | go_simp); (refine hK.out _ _ ?_ (fun hHeld => ?_)); (focus ((try dsimp only); (first | done | (trivial)))); clear hK K; (try simp only [Act.put, List.setIfInBounds_toArray, List.set_cons_zero, List.set_cons_succ]))
      ((first | ((refine Go.Proofs.Ytibgpkcklneloaa.tree_yes (v := ?_) (by rfl) ?_ ?_); rotate_left; (focus (intro w hSw; (try dsimp only at hSw); go_simp; try (with_reducible rfl)))) | (refine Go.Proofs.Ytibgpkcklneloaa.tree_no (by rfl) ?_)); (try simp only [Act.put, List.setIfInBounds_toArray, List.set_cons_zero, List.set_cons_succ]))
      ((first | ((refine Go.Proofs.Ytibgpkcklneloaa.tree_yes (v := ?_) (by rfl) ?_ ?_); rotate_left; (focus (intro w hSw; (try dsimp only at hSw); go_simp; try (with_reducible rfl)))) | (refine Go.Proofs.Ytibgpkcklneloaa.tree_no (by rfl) ?_)); (try simp only [Act.put, List.setIfInBounds_toArray, List.set_cons_zero, List.set_cons_succ]))
      ((refine Go.Proofs.Ytibgpkcklneloaa.tree_step (fun K hK => ?_)); (first | (fail) | (go_simp; (fail); (try go_wp2_with fail)) | go_simp); (refine hK.out _ _ ?_ (fun hHeld => ?_)); (focus ((try dsimp only); (first | done | (trivial)))); clear hK K; (try simp only [Act.put, List.setIfInBounds_toArray, List.set_cons_zero, List.set_cons_succ]))
      refine Go.Proofs.Ytibgpkcklneloaa.tree_done ?_
    all_goals
      have hs7 := ((Hs6.out.set (i := 2) (.slice np m nc)).set (i := 3) (.slice (some ⟨mb, mo, none⟩) ms.length mc)).drew
      have R7 : Ran w ((w5.setCell ⟨lb, 2, none⟩ (.slice np m nc)).setCell ⟨lb, 3, none⟩ (.slice (some ⟨mb, mo, none⟩) ms.length mc)).drew := Below.drew (Ran.set (Ran.set R5 _ _) _ _)
      obtain ⟨w7, hw7⟩ : ∃ w7, w7 = ((w5.setCell ⟨lb, 2, none⟩ (.slice np m nc)).setCell ⟨lb, 3, none⟩ (.slice (some ⟨mb, mo, none⟩) ms.length mc)).drew := ⟨_, rfl⟩
      rw [← hw7] at hs7 R7 ⊢
      clear hw7 d0 d1 d2 d3 dz c0 c1 c2 c3 cz hclr ht1 ht2 hsl
      go_wp2_with fail
      (try simp only [Exit.inBlock, Exit.then])
      have hsD := hs7.perm (show _ = pts D (.deferred (some [])) * (pts lb (logO most nest np m nc (some ⟨mb, mo, none⟩) ms.length mc) * (notes np fs'.length nc fs' * (marksA (some ⟨mb, mo, none⟩) mc (ms ++ [m]) * (I m * (R * pts sb (.cells #[.slice (tailA np m nc 1) (fs.length - m) (nc - m)] 77 (0, 0))))))) by show pts lb (logO most nest np m nc (some ⟨mb, mo, none⟩) ms.length mc) * _ = _; ac_rfl)
      refine marks_out rfl hsD.get (results_tmp rfl _ _ _) ⟨rfl, ?_, Ran.putObj R7 _ _⟩
      have hsE := (hsD.putObj (.deferred none)).right
      have hA := (hsE.perm (show _ = notes np fs'.length nc fs' * (pts lb (logO most nest np m nc (some ⟨mb, mo, none⟩) ms.length mc) * (marksA (some ⟨mb, mo, none⟩) mc (ms ++ [m]) * (I m * (R * pts sb (.cells #[.slice (tailA np m nc 1) (fs.length - m) (nc - m)] 77 (0, 0)))))) by ac_rfl)).arr_take m (by have := Hl.out; omega)
      rw [Nat.mul_one, Ht.out] at hA
      have hB := (hA.perm (show _ = marksA (some ⟨mb, mo, none⟩) mc (ms ++ [m]) * (pts lb (logO most nest np m nc (some ⟨mb, mo, none⟩) ms.length mc) * (notes np m nc (fs.take m) * (I m * (R * pts sb (.cells #[.slice (tailA np m nc 1) (fs.length - m) (nc - m)] 77 (0, 0)))))) by ac_rfl)).arr_take ms.length (by simp)
      refine ⟨np, nc, some ⟨mb, mo, none⟩, mc, ?_⟩
      have e1 : (fs.take m).length = m := by rw [List.length_take]; omega
      have e2 : (((ms ++ [m]).map fun m : Nat => Value.int .i64 (m : Int)).take (ms.length * 1)) = ms.map fun m : Nat => Value.int .i64 (m : Int) := by
        rw [Nat.mul_one, List.map_append, List.take_append_of_le_length (by simp), List.take_of_length_le (by simp)]
      rw [e2] at hB
      rw [e1]
      have hC := hB.perm (show _ = pts sb (.cells #[.slice (tailA np m nc 1) (fs.length - m) (nc - m)] 77 (0, 0)) * (pts lb (logO most nest np m nc (some ⟨mb, mo, none⟩) ms.length mc) * (notes np m nc (fs.take m) * (marksA (some ⟨mb, mo, none⟩) mc ms * (I m * R)))) by unfold marksA; ac_rfl)
      exact hC.right
end Go.Proofs.Ytibgpkcklneloaa.Undo
