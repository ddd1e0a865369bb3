/- LexerAll: which things a text has: the law returns true, for every text. -/
import Derived.Test.YtlhkochpokhncaaDoorLxAC
import Derived.Test.YtlhkochpokhncaaDoorTie
import Derived.Test.YtlhkochpokhncaaDoorCards
import Derived.Laws.Concat
import Derived.LaidMore
import Derived.Lay
import Derived.SevenTiedAt
import Derived.Stop.Joined
namespace Go.Proofs.YtlhkochpokhncaaDoor.lexerAll
open Go.ChangeShapes Go.WideShapes Go.ChangeAt Go.RowKit Go.Proofs.YtlhkochpokhncaaDoor Go.Proofs.YtlhkochpokhncaaDoor.Hp Go.Proofs.YtlhkochpokhncaaDoor.Lexer Go.ChangeMaps
set_option linter.unusedVariables false
attribute [local go_sem] Oper.semAt_some

def LRel (n : Nat) (w0 w : World) (g : Nat) (iv : Value) (wr : World) : Prop := ∃ i : Nat, iv = .int .i64 (i : Int) ∧ i + g = n ∧ Below w0.heap.size w0 wr
set_option maxRecDepth 100000 in
set_option maxHeartbeats 16000000 in
theorem walk (s : ByteArray) (w : World) (h63 : (s.size : Int) ≤ 9223372036854775807) :
    Calls Tryd.prog 3 #[.string s] w fun e w' => e = .returned (.bool true) ∧ Below w.heap.size w w' := by
  have HA := Lib.hid awake_calls
  by_cases hmid : 1000 < (s.size : Int) ∧ (s.size : Int) ≤ 4096
  · obtain ⟨h1, h2⟩ := hmid
    go_enter Tryd.func3, Tryd.ntmps3
    go_wp2_with fail
    refine (HA.out w).mono ?_
    rintro e w1 ⟨rfl, hB⟩
    go_wp2_with fail
    go_ret
    exact ⟨rfl, hB⟩
  · have A1 := Lib.hid (fun w => all_calls s h63 w)
    have A2 := Lib.hid (fun w => rall_calls s h63 w)
    have hlen := allP_len s
    obtain ⟨xs, hxs⟩ : ∃ xs, xs = (allP s).1 := ⟨_, rfl⟩
    obtain ⟨f, hf⟩ : ∃ f, f = (allP s).2 := ⟨_, rfl⟩
    unfold APost at A1
    unfold RAPost at A2
    rw [← hxs, ← hf] at A1 A2
    rw [← hxs] at hlen
    clear hxs hf
    obtain ⟨f1, f2⟩ := f
    obtain ⟨n, hn⟩ : ∃ n, n = xs.length := ⟨_, rfl⟩
    have Hn := Lib.hid (And.intro hn hlen)
    have hnI : (n : Int) ≤ 4096 := by omega
    have hcase : (s.size : Int) ≤ 1000 ∨ (1000 < (s.size : Int) ∧ 4096 < (s.size : Int)) := by omega
    clear hmid hn hlen
    rcases hcase with h1 | ⟨h1, h2⟩
    all_goals
      go_enter Tryd.func3, Tryd.ntmps3
      go_wp2_with fail
      refine (A1.out w).mono ?_
      rintro e w1 ⟨⟨p1, q1, rfl, hS1⟩, hR1⟩
      have hB1 := Lib.hid (hR1.whole hS1)
      have HS1 := Lib.hid hS1
      rw [← Hn.out.1]
      clear hS1 hR1
      go_wp2_with fail
      refine (A2.out w1).mono ?_
      rintro e w2 ⟨⟨p2, q2, rfl, hS2⟩, hR2⟩
      have hB2 := hR2.whole hS2
      have HB := Lib.hid (hB1.out.trans (Below.mono (h := hB2) hB1.out.size))
      have HS12 := Lib.hid (HS1.out.below hB2)
      have HS2 := Lib.hid hS2
      rw [← Hn.out.1]
      clear hS2 hR2 hB2 hB1 HS1
      go_wp2_with fail
      go_loopg [9] n (LRel n w2 w)
      case atStart => exact ⟨0, rfl, Nat.zero_add _, Below.refl _ _⟩
      case round =>
        obtain ⟨i, rfl, hg, hBr⟩ := hrel
        have hi0 : (0 : Int) ≤ i := by omega
        by_cases hi : i < n
        · have hiI : (i : Int) < n := by omega
          have hix : i < xs.length := by rw [← Hn.out.1]; exact hi
          obtain ⟨b1, o1, rfl, hc1, hb1, a0, a1, a2, a3⟩ := tok_at (HS12.out.below hBr) i hix
          obtain ⟨b2, o2, rfl, hc2, hb2, d0, d1, d2, d3⟩ := tok_at (HS2.out.below hBr) i hix
          obtain ⟨t, ht⟩ : ∃ t, t = xs[i] := ⟨_, rfl⟩
          rw [← ht] at a0 a1 a2 a3 d0 d1 d2 d3
          rw [← Hn.out.1] at hc1 hc2
          clear ht hix
          obtain ⟨kd, tx, ta, ts⟩ := t
          have hc1I : (n : Int) ≤ q1 := by omega
          have hc2I : (n : Int) ≤ q2 := by omega
          have HE := Lib.hid (same_calls ⟨kd, tx, ta, ts⟩)
          have HR1 := Lib.hid (res_calls tx)
          have HR2 := Lib.hid (rres_calls tx)
          obtain ⟨rb, hrb⟩ : ∃ b, b = resB tx := ⟨_, rfl⟩
          rw [← hrb] at HR1 HR2
          have HC := Lib.hid (fun (W : World) (hW : Below wr.heap.size wr W) => (show W.cell? ⟨b1, o1 + i * 4, none⟩ = some (.int .i64 kd) ∧ W.cell? ⟨b1, o1 + i * 4 + 1, none⟩ = some (.string tx) ∧ W.cell? ⟨b1, o1 + i * 4 + 2, none⟩ = some (.int .i64 ta) ∧ W.cell? ⟨b1, o1 + i * 4 + 3, none⟩ = some (.int .i64 ts) ∧ W.cell? ⟨b2, o2 + i * 4, none⟩ = some (.int .i64 kd) ∧ W.cell? ⟨b2, o2 + i * 4 + 1, none⟩ = some (.string tx) ∧ W.cell? ⟨b2, o2 + i * 4 + 2, none⟩ = some (.int .i64 ta) ∧ W.cell? ⟨b2, o2 + i * 4 + 3, none⟩ = some (.int .i64 ts) from
            ⟨(World.cell?_of_block (w := wr) (hW.block _ hb1)).trans a0, (World.cell?_of_block (w := wr) (hW.block _ hb1)).trans a1, (World.cell?_of_block (w := wr) (hW.block _ hb1)).trans a2, (World.cell?_of_block (w := wr) (hW.block _ hb1)).trans a3, (World.cell?_of_block (w := wr) (hW.block _ hb2)).trans d0, (World.cell?_of_block (w := wr) (hW.block _ hb2)).trans d1, (World.cell?_of_block (w := wr) (hW.block _ hb2)).trans d2, (World.cell?_of_block (w := wr) (hW.block _ hb2)).trans d3⟩))
          have hP : Below wr.heap.size wr wr.drew := ⟨rfl, rfl, rfl, Nat.le_refl _, fun _ _ => rfl⟩
          have Hg := Lib.hid hg
          clear a0 a1 a2 a3 d0 d1 d2 d3 hrb hg
          go_wp2_with fail
          refine Go.Proofs.YtlhkochpokhncaaDoor.region_tree (S := (fun w' => w'.cell? ⟨b1, o1 + i * 4, none⟩ = some (.int .i64 kd) ∧ w'.cell? ⟨b1, o1 + i * 4 + 1, none⟩ = some (.string tx) ∧ w'.cell? ⟨b1, o1 + i * 4 + 2, none⟩ = some (.int .i64 ta) ∧ w'.cell? ⟨b1, o1 + i * 4 + 3, none⟩ = some (.int .i64 ts) ∧ w'.cell? ⟨b2, o2 + i * 4, none⟩ = some (.int .i64 kd) ∧ w'.cell? ⟨b2, o2 + i * 4 + 1, none⟩ = some (.string tx) ∧ w'.cell? ⟨b2, o2 + i * 4 + 2, none⟩ = some (.int .i64 ta) ∧ w'.cell? ⟨b2, o2 + i * 4 + 3, none⟩ = some (.int .i64 ts))) (.take 0 (.take 1 (.take 2 (.take 3 (.take 4 (.take 5 (.take 6 (.take 7 (.step 8 (.take 9 (.take 10 (.take 11 (.take 12 (.take 13 (.take 14 (.take 15 (.take 17 (.take 18 (.take 19 (.take 20 (.take 21 (.step 16 (.step 22 (.take 23 (.take 24 (.nil)))))))))))))))))))))))))) (by kernel_rfl) (by kernel_rfl) (by kernel_rfl) ?_ ?_
          · ((try dsimp only); (first | done | (exact HC.out _ hP)))
          simp only [Go.Proofs.YtlhkochpokhncaaDoor.Plan.ops, List.getElem?_toArray, List.getElem?_cons_zero, List.getElem?_cons_succ]
          ((first | ((refine Go.Proofs.YtlhkochpokhncaaDoor.tree_yes (v := ?_) (by rfl) ?_ ?_); rotate_left; (focus (intro w hSw; (try dsimp only at hSw); go_simp; try (with_reducible rfl)))) | (refine Go.Proofs.YtlhkochpokhncaaDoor.tree_no (by rfl) ?_)); (try simp only [Act.put, List.setIfInBounds_toArray, List.set_cons_zero, List.set_cons_succ]))
          ((first | ((refine Go.Proofs.YtlhkochpokhncaaDoor.tree_yes (v := ?_) (by rfl) ?_ ?_); rotate_left; (focus (intro w hSw; (try dsimp only at hSw); go_simp; try (with_reducible rfl)))) | (refine Go.Proofs.YtlhkochpokhncaaDoor.tree_no (by rfl) ?_)); (try simp only [Act.put, List.setIfInBounds_toArray, List.set_cons_zero, List.set_cons_succ]))
          ((first | ((refine Go.Proofs.YtlhkochpokhncaaDoor.tree_yes (v := ?_) (by rfl) ?_ ?_); rotate_left; (focus (intro w hSw; (try dsimp only at hSw); go_simp; try (with_reducible rfl)))) | (refine Go.Proofs.YtlhkochpokhncaaDoor.tree_no (by rfl) ?_)); (try simp only [Act.put, List.setIfInBounds_toArray, List.set_cons_zero, List.set_cons_succ]))
          ((first | ((refine Go.Proofs.YtlhkochpokhncaaDoor.tree_yes (v := ?_) (by rfl) ?_ ?_); rotate_left; (focus (intro w hSw; (try dsimp only at hSw); go_simp; try (with_reducible rfl)))) | (refine Go.Proofs.YtlhkochpokhncaaDoor.tree_no (by rfl) ?_)); (try simp only [Act.put, List.setIfInBounds_toArray, List.set_cons_zero, List.set_cons_succ]))
          ((first | ((refine Go.Proofs.YtlhkochpokhncaaDoor.tree_yes (v := ?_) (by rfl) ?_ ?_); rotate_left; (focus (intro w hSw; (try dsimp only at hSw); go_simp; try (with_reducible rfl)))) | (refine Go.Proofs.YtlhkochpokhncaaDoor.tree_no (by rfl) ?_)); (try simp only [Act.put, List.setIfInBounds_toArray, List.set_cons_zero, List.set_cons_succ]))
          ((first | ((refine Go.Proofs.YtlhkochpokhncaaDoor.tree_yes (v := ?_) (by rfl) ?_ ?_); rotate_left; (focus (intro w hSw; (try dsimp only at hSw); go_simp; try (with_reducible rfl)))) | (refine Go.Proofs.YtlhkochpokhncaaDoor.tree_no (by rfl) ?_)); (try simp only [Act.put, List.setIfInBounds_toArray, List.set_cons_zero, List.set_cons_succ]))
          ((first | ((refine Go.Proofs.YtlhkochpokhncaaDoor.tree_yes (v := ?_) (by rfl) ?_ ?_); rotate_left; (focus (intro w hSw; (try dsimp only at hSw); go_simp; try (with_reducible rfl)))) | (refine Go.Proofs.YtlhkochpokhncaaDoor.tree_no (by rfl) ?_)); (try simp only [Act.put, List.setIfInBounds_toArray, List.set_cons_zero, List.set_cons_succ]))
          ((first | ((refine Go.Proofs.YtlhkochpokhncaaDoor.tree_yes (v := ?_) (by rfl) ?_ ?_); rotate_left; (focus (intro w hSw; (try dsimp only at hSw); go_simp; try (with_reducible rfl)))) | (refine Go.Proofs.YtlhkochpokhncaaDoor.tree_no (by rfl) ?_)); (try simp only [Act.put, List.setIfInBounds_toArray, List.set_cons_zero, List.set_cons_succ]))
          ((refine Go.Proofs.YtlhkochpokhncaaDoor.tree_step (fun K hK => ?_)); (first | (first | (go_at_call 12; refine (HE.out _).mono ?_; rintro e w5 ⟨rfl, hB5⟩; have hP := Below.trans hP (Below.mono (h := hB5) hP.size)) | (go_at_call 13; refine (HR1.out _).mono ?_; rintro e w5 ⟨rfl, hB5⟩; have hP := Below.trans hP (Below.mono (h := hB5) hP.size)) | (go_at_call 14; refine (HR2.out _).mono ?_; rintro e w5 ⟨rfl, hB5⟩; have hP := Below.trans hP (Below.mono (h := hB5) hP.size))) | (go_simp; (first | (go_at_call 12; refine (HE.out _).mono ?_; rintro e w5 ⟨rfl, hB5⟩; have hP := Below.trans hP (Below.mono (h := hB5) hP.size)) | (go_at_call 13; refine (HR1.out _).mono ?_; rintro e w5 ⟨rfl, hB5⟩; have hP := Below.trans hP (Below.mono (h := hB5) hP.size)) | (go_at_call 14; refine (HR2.out _).mono ?_; rintro e w5 ⟨rfl, hB5⟩; have hP := Below.trans hP (Below.mono (h := hB5) hP.size))); (try go_wp2_with fail)) | go_simp); (refine hK.out _ _ ?_ (fun hHeld => ?_)); (focus ((try dsimp only); (first | done | (exact HC.out _ hP)))); clear hK K; (try simp only [Act.put, List.setIfInBounds_toArray, List.set_cons_zero, List.set_cons_succ]))
          ((first | ((refine Go.Proofs.YtlhkochpokhncaaDoor.tree_yes (v := ?_) (by rfl) ?_ ?_); rotate_left; (focus (intro w hSw; (try dsimp only at hSw); go_simp; try (with_reducible rfl)))) | (refine Go.Proofs.YtlhkochpokhncaaDoor.tree_no (by rfl) ?_)); (try simp only [Act.put, List.setIfInBounds_toArray, List.set_cons_zero, List.set_cons_succ]))
          ((first | ((refine Go.Proofs.YtlhkochpokhncaaDoor.tree_yes (v := ?_) (by rfl) ?_ ?_); rotate_left; (focus (intro w hSw; (try dsimp only at hSw); go_simp; try (with_reducible rfl)))) | (refine Go.Proofs.YtlhkochpokhncaaDoor.tree_no (by rfl) ?_)); (try simp only [Act.put, List.setIfInBounds_toArray, List.set_cons_zero, List.set_cons_succ]))
          ((first | ((refine Go.Proofs.YtlhkochpokhncaaDoor.tree_yes (v := ?_) (by rfl) ?_ ?_); rotate_left; (focus (intro w hSw; (try dsimp only at hSw); go_simp; try (with_reducible rfl)))) | (refine Go.Proofs.YtlhkochpokhncaaDoor.tree_no (by rfl) ?_)); (try simp only [Act.put, List.setIfInBounds_toArray, List.set_cons_zero, List.set_cons_succ]))
          ((first | ((refine Go.Proofs.YtlhkochpokhncaaDoor.tree_yes (v := ?_) (by rfl) ?_ ?_); rotate_left; (focus (intro w hSw; (try dsimp only at hSw); go_simp; try (with_reducible rfl)))) | (refine Go.Proofs.YtlhkochpokhncaaDoor.tree_no (by rfl) ?_)); (try simp only [Act.put, List.setIfInBounds_toArray, List.set_cons_zero, List.set_cons_succ]))
          ((first | ((refine Go.Proofs.YtlhkochpokhncaaDoor.tree_yes (v := ?_) (by rfl) ?_ ?_); rotate_left; (focus (intro w hSw; (try dsimp only at hSw); go_simp; try (with_reducible rfl)))) | (refine Go.Proofs.YtlhkochpokhncaaDoor.tree_no (by rfl) ?_)); (try simp only [Act.put, List.setIfInBounds_toArray, List.set_cons_zero, List.set_cons_succ]))
          ((first | ((refine Go.Proofs.YtlhkochpokhncaaDoor.tree_yes (v := ?_) (by rfl) ?_ ?_); rotate_left; (focus (intro w hSw; (try dsimp only at hSw); go_simp; try (with_reducible rfl)))) | (refine Go.Proofs.YtlhkochpokhncaaDoor.tree_no (by rfl) ?_)); (try simp only [Act.put, List.setIfInBounds_toArray, List.set_cons_zero, List.set_cons_succ]))
          ((first | ((refine Go.Proofs.YtlhkochpokhncaaDoor.tree_yes (v := ?_) (by rfl) ?_ ?_); rotate_left; (focus (intro w hSw; (try dsimp only at hSw); go_simp; try (with_reducible rfl)))) | (refine Go.Proofs.YtlhkochpokhncaaDoor.tree_no (by rfl) ?_)); (try simp only [Act.put, List.setIfInBounds_toArray, List.set_cons_zero, List.set_cons_succ]))
          ((first | ((refine Go.Proofs.YtlhkochpokhncaaDoor.tree_yes (v := ?_) (by rfl) ?_ ?_); rotate_left; (focus (intro w hSw; (try dsimp only at hSw); go_simp; try (with_reducible rfl)))) | (refine Go.Proofs.YtlhkochpokhncaaDoor.tree_no (by rfl) ?_)); (try simp only [Act.put, List.setIfInBounds_toArray, List.set_cons_zero, List.set_cons_succ]))
          ((first | ((refine Go.Proofs.YtlhkochpokhncaaDoor.tree_yes (v := ?_) (by rfl) ?_ ?_); rotate_left; (focus (intro w hSw; (try dsimp only at hSw); go_simp; try (with_reducible rfl)))) | (refine Go.Proofs.YtlhkochpokhncaaDoor.tree_no (by rfl) ?_)); (try simp only [Act.put, List.setIfInBounds_toArray, List.set_cons_zero, List.set_cons_succ]))
          ((first | ((refine Go.Proofs.YtlhkochpokhncaaDoor.tree_yes (v := ?_) (by rfl) ?_ ?_); rotate_left; (focus (intro w hSw; (try dsimp only at hSw); go_simp; try (with_reducible rfl)))) | (refine Go.Proofs.YtlhkochpokhncaaDoor.tree_no (by rfl) ?_)); (try simp only [Act.put, List.setIfInBounds_toArray, List.set_cons_zero, List.set_cons_succ]))
          ((first | ((refine Go.Proofs.YtlhkochpokhncaaDoor.tree_yes (v := ?_) (by rfl) ?_ ?_); rotate_left; (focus (intro w hSw; (try dsimp only at hSw); go_simp; try (with_reducible rfl)))) | (refine Go.Proofs.YtlhkochpokhncaaDoor.tree_no (by rfl) ?_)); (try simp only [Act.put, List.setIfInBounds_toArray, List.set_cons_zero, List.set_cons_succ]))
          ((first | ((refine Go.Proofs.YtlhkochpokhncaaDoor.tree_yes (v := ?_) (by rfl) ?_ ?_); rotate_left; (focus (intro w hSw; (try dsimp only at hSw); go_simp; try (with_reducible rfl)))) | (refine Go.Proofs.YtlhkochpokhncaaDoor.tree_no (by rfl) ?_)); (try simp only [Act.put, List.setIfInBounds_toArray, List.set_cons_zero, List.set_cons_succ]))
          ((refine Go.Proofs.YtlhkochpokhncaaDoor.tree_step (fun K hK => ?_)); (first | (first | (go_at_call 12; refine (HE.out _).mono ?_; rintro e w5 ⟨rfl, hB5⟩; have hP := Below.trans hP (Below.mono (h := hB5) hP.size)) | (go_at_call 13; refine (HR1.out _).mono ?_; rintro e w5 ⟨rfl, hB5⟩; have hP := Below.trans hP (Below.mono (h := hB5) hP.size)) | (go_at_call 14; refine (HR2.out _).mono ?_; rintro e w5 ⟨rfl, hB5⟩; have hP := Below.trans hP (Below.mono (h := hB5) hP.size))) | (go_simp; (first | (go_at_call 12; refine (HE.out _).mono ?_; rintro e w5 ⟨rfl, hB5⟩; have hP := Below.trans hP (Below.mono (h := hB5) hP.size)) | (go_at_call 13; refine (HR1.out _).mono ?_; rintro e w5 ⟨rfl, hB5⟩; have hP := Below.trans hP (Below.mono (h := hB5) hP.size)) | (go_at_call 14; refine (HR2.out _).mono ?_; rintro e w5 ⟨rfl, hB5⟩; have hP := Below.trans hP (Below.mono (h := hB5) hP.size))); (try go_wp2_with fail)) | go_simp); (refine hK.out _ _ ?_ (fun hHeld => ?_)); (focus ((try dsimp only); (first | done | (exact HC.out _ hP)))); clear hK K; (try simp only [Act.put, List.setIfInBounds_toArray, List.set_cons_zero, List.set_cons_succ]))
          ((refine Go.Proofs.YtlhkochpokhncaaDoor.tree_step (fun K hK => ?_)); (first | (first | (go_at_call 12; refine (HE.out _).mono ?_; rintro e w5 ⟨rfl, hB5⟩; have hP := Below.trans hP (Below.mono (h := hB5) hP.size)) | (go_at_call 13; refine (HR1.out _).mono ?_; rintro e w5 ⟨rfl, hB5⟩; have hP := Below.trans hP (Below.mono (h := hB5) hP.size)) | (go_at_call 14; refine (HR2.out _).mono ?_; rintro e w5 ⟨rfl, hB5⟩; have hP := Below.trans hP (Below.mono (h := hB5) hP.size))) | (go_simp; (first | (go_at_call 12; refine (HE.out _).mono ?_; rintro e w5 ⟨rfl, hB5⟩; have hP := Below.trans hP (Below.mono (h := hB5) hP.size)) | (go_at_call 13; refine (HR1.out _).mono ?_; rintro e w5 ⟨rfl, hB5⟩; have hP := Below.trans hP (Below.mono (h := hB5) hP.size)) | (go_at_call 14; refine (HR2.out _).mono ?_; rintro e w5 ⟨rfl, hB5⟩; have hP := Below.trans hP (Below.mono (h := hB5) hP.size))); (try go_wp2_with fail)) | go_simp); (refine hK.out _ _ ?_ (fun hHeld => ?_)); (focus ((try dsimp only); (first | done | (exact HC.out _ hP)))); clear hK K; (try simp only [Act.put, List.setIfInBounds_toArray, List.set_cons_zero, List.set_cons_succ]))
          ((first | ((refine Go.Proofs.YtlhkochpokhncaaDoor.tree_yes (v := ?_) (by rfl) ?_ ?_); rotate_left; (focus (intro w hSw; (try dsimp only at hSw); go_simp; try (with_reducible rfl)))) | (refine Go.Proofs.YtlhkochpokhncaaDoor.tree_no (by rfl) ?_)); (try simp only [Act.put, List.setIfInBounds_toArray, List.set_cons_zero, List.set_cons_succ]))
          ((first | ((refine Go.Proofs.YtlhkochpokhncaaDoor.tree_yes (v := ?_) (by rfl) ?_ ?_); rotate_left; (focus (intro w hSw; (try dsimp only at hSw); go_simp; try (with_reducible rfl)))) | (refine Go.Proofs.YtlhkochpokhncaaDoor.tree_no (by rfl) ?_)); (try simp only [Act.put, List.setIfInBounds_toArray, List.set_cons_zero, List.set_cons_succ]))
          refine Go.Proofs.YtlhkochpokhncaaDoor.tree_done ?_
          all_goals
            have HP := Lib.hid (hBr.trans (Below.mono (h := hP) hBr.size))
            go_wp2_with fail
            go_roundg (gk - 1)
            case measure => have := Hg.out; omega
            case rel => exact ⟨i + 1, by go_num, by have := Hg.out; omega, HP.out⟩
        · have hiI : ¬ ((i : Int) < n) := by omega
          have HB3 := Lib.hid (HB.out.trans (Below.mono (h := hBr) HB.out.size))
          clear hg hBr
          go_wp2_with fail
          refine (HA.out wr).mono ?_
          rintro e w3 ⟨rfl, hB3⟩
          have HF := Lib.hid (HB3.out.trans (Below.mono (h := hB3) HB3.out.size))
          clear hB3
          go_wp2_with fail
          go_ret
          exact ⟨rfl, HF.out⟩

set_option maxRecDepth 100000 in
theorem lifted (os : Os) (started : os.Started) (H : Type) (enc : TypeId × Value → H) :
    ReturnsInHanded {} Tryd.checked os 3 .any (fun w args => (Rows.lexerAllSpec.pre enc Tryd.prog Tryd.f3 Rows.lexerAllRow.domain false w args ∧ laidMetH Tryd.prog Rows.lexerAllRow.laid w) ∧ sizedMet enc Tryd.prog Tryd.f3 (OpenSpec.ofChange Rows.lexerAllSpec) false w args) (Rows.lexerAllSpec.post enc Tryd.prog Tryd.f3 false true false false) := by
  refine returnsInHanded_of_change_and (C := Tryd.checked) (X := fun w _ => laidMetH Tryd.prog Rows.lexerAllRow.laid w) (fun _ _ _ hh h => h.of_heap hh) own started (by kernel_rfl) Tryd.func3
    (ChangeSpec.witness_shaped (enc := enc) (C := Tryd.checked) (os := os) (X := fun w _ => laidMetH Tryd.prog Rows.lexerAllRow.laid w) false (World.laidAll Tryd.prog os Rows.lexerAllRow.laid) #[.string ⟨#[]⟩] 8 (World.laidAll_os _ _ _)
      (World.shaped_of_ZipB (by kernel_rfl) (by kernel_rfl)) (by kernel_rfl) (by kernel_rfl) (by kernel_rfl)
      (by rw [MakeChecks.laidMetH_plain _ _ _ (by kernel_rfl)]; exact laidMet_laidAll _ (by kernel_rfl) (by kernel_rfl))) ?_
  intro W base args ds gs before hval0 hW hcnd _ hL _
  have hval : ∀ (j : Nat) t v, Tryd.f3.params[j]? = some t → args[j]? = some v → Value.okWide Tryd.prog W .any base t v := hval0
  have hW' := hW
  obtain ⟨p, q, hA0, hV, rfl, hfz, hnd⟩ := hW
  have hA : DataW.TrodAll enc Tryd.prog W 0 (fun _ => true) true Tryd.f3.params.toList args.toList ds p := hA0
  rw [Tryd.params3] at hA hval
  obtain ⟨v0, vs0, d0, ds0, p0, q0, hargs, rfl, rfl, h0, r0⟩ := trodAll_cons hA
  obtain ⟨rfl, rfl, rfl⟩ := trodAll_nil r0
  obtain rfl : args = #[v0] := by cases args; simp_all
  obtain ⟨rfl, rfl⟩ := trodVars_none hV
  obtain ⟨s0, rfl, rfl, rfl, w0⟩ := open_string Tryd.underlying9 (hval 0 9 v0 rfl rfl) h0
  clear hA0 hval0
  refine (walk s0 W (by unfold maxLen at w0; omega)).mono fun e W' ⟨he, bel⟩ => ?_
  subst he
  exact ⟨_, rfl, _, _, _, [], _, [], hW', trodAll_mk1 (shut_bool Tryd.underlying4 _), (trodAll_cons_mk (shut_string Tryd.underlying9 w0) trodAll_mk0), rfl, bel.frame _, fun h => by cases h⟩

theorem over : Rows.lexerAllRow.holds Tryd.pinned (OpenSpec.ofChange Rows.lexerAllSpec) :=
  OpenClaim.holds_of_wide 3 Tryd.f3 rfl rfl rfl rfl rfl rfl rfl ⟨rfl, rfl, rfl, rfl, rfl⟩ rfl rfl rfl rfl rfl (by kernel_rfl) Tryd.func3 (by kernel_rfl)
    (of_decide_eq_true (by kernel_rfl)) (by unfold Func.isWrapper; first | (rw [if_pos (by decide +kernel)]; kernel_rfl) | (rw [if_neg (by decide +kernel)]; exact ⟨rfl, rfl⟩))
    (fun os started H enc _ => lifted os started H enc)

theorem proved : Rows.LexerAllCardSaid :=
  Claim7.holds_tied_plain_at .later [] [.data, .pinned] true (true, "4c79555ad02daef53123237e431fdc6bc5e59d07fbb8e17f724265a7ee9d4d92") false over (fun _ h => by cases h) (by kernel_rfl) (fun _ h => by cases h) lexerAll_row_tie rfl ⟨rfl, rfl⟩ (by kernel_rfl) rfl
    (fun f fn hf hfn => by
      obtain rfl : f = 3 := Option.some.inj ((show Tryd.prog.funcNamed "whelk/whelklaw11.LexerAll" = some 3 by kernel_rfl).symm.trans hf) |>.symm
      obtain rfl : fn = Tryd.f3 := (Option.some.inj (Tryd.func3.symm.trans hfn)).symm
      exact ⟨by kernel_rfl, fun j t ht => by
        rw [Tryd.params3] at ht
        have hm : t ∈ [9] := by simpa using Array.mem_of_getElem? ht
        have hall : ([9].all fun u => !Tryd.prog.wantsStandIn u) = true := by kernel_rfl
        exact (show Tryd.prog.wantsStandIn t = false by simpa using List.all_eq_true.1 hall t hm)⟩)
    (by kernel_rfl)
#print axioms proved
end Go.Proofs.YtlhkochpokhncaaDoor.lexerAll
