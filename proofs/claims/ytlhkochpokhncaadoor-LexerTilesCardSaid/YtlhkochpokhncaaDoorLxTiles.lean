/- LexerTiles: things do not meet, what stands between them has none, and each is told by its own bytes again: the law returns true, for every text. -/
import Derived.Test.YtlhkochpokhncaaDoorLxAH
import Derived.Test.YtlhkochpokhncaaDoorTie
import Derived.Test.YtlhkochpokhncaaDoorCards
import Derived.Laws.Concat
import Derived.LaidMore
import Derived.Lay
import Derived.SevenTiedAt
import Derived.Stop.Joined
namespace Go.Proofs.YtlhkochpokhncaaDoor.lexerTiles
open Go.ChangeShapes Go.WideShapes Go.ChangeAt Go.RowKit Go.Proofs.YtlhkochpokhncaaDoor Go.Proofs.YtlhkochpokhncaaDoor.Hp Go.Proofs.YtlhkochpokhncaaDoor.Lexer Go.ChangeMaps
set_option linter.unusedVariables false
attribute [local go_sem] Oper.semAt_some

theorem tile_next {s : ByteArray} {xs : List Lexer.Tok} {fin : Int × Int} {G i k : Nat} (h : AllAt s xs fin G (xs.take i) k) (hs : s.size ≤ 4096) (hi : i < xs.length) :
    ∃ (kd : Int) (a m : Nat), xs[i] = ⟨kd, s.extract a m, (a : Int), (m : Int)⟩ ∧ k ≤ a ∧ a < m ∧ m ≤ s.size ∧ nothL (bs (s.extract k a)) = true ∧ One (s.extract a m) ∧ AllAt s xs fin (G - 1) (xs.take (i + 1)) m := by
  have hl : (xs.take i).length = i := by rw [List.length_take]; omega
  have hne : ∀ {p : Prop}, xs = xs.take i → p := by
    intro p e
    have : xs.length = i := by rw [e, hl]
    omega
  by_cases he : (nextA s (k : Int)).2 = 0
  · by_cases hk : (nextA s (k : Int)).1.kind = 0
    · exact hne (h.stop he hk).1
    · obtain ⟨h4, hks, a, m, e1, e2, e3, e4, e5, e6, e7, -⟩ := nextA_prog s k he hk
      obtain ⟨_, m', post, f1, f2, f3, _⟩ := h.next he hk
      have hmm : m' = m := by rw [e2] at f1; exact Int.ofNat.inj f1.symm
      subst hmm
      have hx : xs[i] = (nextA s (k : Int)).1 := by
        have : xs[i]? = some (nextA s (k : Int)).1 := by
          rw [f2, List.getElem?_append_right (by rw [hl]; exact Nat.le_refl _), hl, Nat.sub_self]; rfl
        rw [List.getElem?_eq_getElem hi] at this
        exact Option.some.inj this
      have ht : xs.take (i + 1) = xs.take i ++ [(nextA s (k : Int)).1] := by
        rw [List.take_add_one, List.getElem?_eq_getElem hi, hx]; rfl
      refine ⟨(nextA s (k : Int)).1.kind, a, m', ?_, e3, e4, e5, noth_gap s k a e3 (by omega) e6, ?_, by rw [ht]; exact f3⟩
      · rw [hx]
        cases hT : (nextA s (k : Int)).1 with
        | mk a1 a2 a3 a4 =>
          rw [hT] at e1 e2 e7
          dsimp only at e1 e2 e7 ⊢
          rw [e1, e2, e7]
      · rw [← e7]; exact nextA_one s k he hk
  · exact hne (h.bad he).1
theorem tile_end {s : ByteArray} {xs : List Lexer.Tok} {fin : Int × Int} {G k : Nat} (h : AllAt s xs fin G xs k) (hs : s.size ≤ 4096) :
    k ≤ s.size ∧ ((fin = (0, 0) ∧ nothL (bs (s.extract k s.size)) = true) ∨ ∃ a : Nat, fin = ((a : Int), 30) ∧ k ≤ a ∧ a < s.size ∧ nothL (bs (s.extract k a)) = true) := by
  have hk0 := h.1
  refine ⟨hk0, ?_⟩
  by_cases he : (nextA s (k : Int)).2 = 0
  · by_cases hk : (nextA s (k : Int)).1.kind = 0
    · refine .inl ⟨(h.stop he hk).2, noth_gap s k s.size hk0 (Nat.le_refl _) ?_⟩
      rw [nextA_zero s k hk0 hs he hk, drop_end s s.size (Nat.le_refl _)]
    · obtain ⟨_, m', post, f1, f2, f3, _⟩ := h.next he hk
      have := congrArg List.length f2
      simp at this
  · obtain ⟨h30, a, e1, e2, e3, e4⟩ := nextA_open s k hk0 hs he
    refine .inr ⟨a, ?_, e2, e3, noth_gap s k a e2 (by omega) e4⟩
    rw [(h.bad he).2, h30, e1]

def TRel (s : ByteArray) (xs : List Lexer.Tok) (fin : Int × Int) (w0 w : World) (g : Nat) (ev iv : Value) (wr : World) : Prop :=
  ∃ i k G : Nat, iv = .int .i64 (i : Int) ∧ ev = .int .i64 (k : Int) ∧ i + g = xs.length ∧ AllAt s xs fin G (xs.take i) k ∧ Below w0.heap.size w0 wr
set_option maxRecDepth 100000 in
set_option maxHeartbeats 16000000 in
theorem walk (s : ByteArray) (w : World) (h63 : (s.size : Int) ≤ 9223372036854775807) :
    Calls Tryd.prog 6 #[.string s] w fun e w' => e = .returned (.bool true) ∧ Below w.heap.size w w' := by
  have HA := Lib.hid awake_calls
  by_cases hmid : 500 < (s.size : Int)
  · go_enter Tryd.func6, Tryd.ntmps6
    go_wp2_with fail
    refine (HA.out w).mono ?_
    rintro e w1 ⟨rfl, hB⟩
    go_wp2_with fail
    go_ret
    exact ⟨rfl, hB⟩
  · have h4k : s.size ≤ 4096 := by omega
    have A1 := Lib.hid (fun w => all_calls s h63 w)
    have hlen := allP_len s
    have hst := allAt_start s
    obtain ⟨xs, hxs⟩ : ∃ xs, xs = (allP s).1 := ⟨_, rfl⟩
    obtain ⟨f, hf⟩ : ∃ f, f = (allP s).2 := ⟨_, rfl⟩
    unfold APost at A1
    rw [← hxs, ← hf] at A1 hst
    rw [← hxs] at hlen
    clear hxs hf
    obtain ⟨f1, f2⟩ := f
    obtain ⟨n, hn⟩ : ∃ n, n = xs.length := ⟨_, rfl⟩
    have Hn := Lib.hid (And.intro hn hlen)
    have hnI : (n : Int) ≤ 4096 := by omega
    have Hst := Lib.hid hst
    have hszI : ¬ 500 < (s.size : Int) := hmid
    clear hmid hn hlen hst
    go_enter Tryd.func6, Tryd.ntmps6
    go_wp2_with fail
    refine (A1.out w).mono ?_
    rintro e w1 ⟨⟨p1, q1, rfl, hS1⟩, hR1⟩
    have HB := Lib.hid (hR1.whole hS1)
    have HS1 := Lib.hid hS1
    rw [← Hn.out.1]
    clear hS1 hR1
    go_wp2_with fail
    go_loopg [6, 7] n (TRel s xs (f1, f2) w1 w)
    case atStart => exact ⟨0, 0, s.size + 1, rfl, rfl, by rw [Nat.zero_add]; exact Hn.out.1, by rw [List.take_zero]; exact Hst.out, Below.refl _ _⟩
    case round =>
      obtain ⟨i, k, G, rfl, rfl, hg, hAt, hBr⟩ := hrel
      have hi0 : (0 : Int) ≤ i := by omega
      have hk0 : (0 : Int) ≤ k := by omega
      by_cases hi : i < n
      · have hiI : (i : Int) < n := by omega
        have hix : i < xs.length := by rw [← Hn.out.1]; exact hi
        obtain ⟨b1, o1, rfl, hc1, hb1, a0, a1, a2, a3⟩ := tok_at (HS1.out.below hBr) i hix
        obtain ⟨kd, a, m, ht, hka, ham, hms, hnt, hone, hAt2⟩ := tile_next hAt h4k hix
        rw [ht] at a0 a1 a2 a3
        dsimp only at a0 a1 a2 a3
        rw [← Hn.out.1] at hc1
        obtain ⟨tx, htx⟩ : ∃ t, s.extract a m = t := ⟨_, rfl⟩
        obtain ⟨gx, hgx⟩ : ∃ t, s.extract k a = t := ⟨_, rfl⟩
        rw [htx] at a1 hone
        rw [hgx] at hnt
        have htxs : (tx.size : Int) ≤ 500 := by rw [← htx, ByteArray.size_extract]; omega
        have hgxs : (gx.size : Int) ≤ 1000000 := by rw [← hgx, ByteArray.size_extract]; omega
        have HN := Lib.hid (nothing_calls gx hgxs)
        rw [hnt] at HN
        obtain ⟨kd2, hone⟩ := hone
        have A2 : ∀ w, Calls Tryd.prog 10 #[.string tx] w fun e w' => (∃ p cap, e = .returned (.tuple #[.slice p 1 cap, .int .i64 0, .int .i64 0]) ∧ Sat w' (tokA p cap [⟨kd2, tx, 0, (tx.size : Int)⟩] * keep w)) ∧ Ran w w' := by
          intro w
          have h := all_calls tx (by omega) w
          unfold APost at h
          rw [hone] at h
          exact h
        have A2 := Lib.hid A2
        have hkaI : ¬ ((a : Int) < k) := by omega
        have hamI : ¬ ((m : Int) ≤ a) := by omega
        have hmsI : ¬ ((s.size : Int) < m) := by omega
        have ham0 : (a : Int) ≤ m := by omega
        have hka0 : (k : Int) ≤ a := by omega
        have has0 : (a : Int) ≤ s.size := by omega
        have hms0 : (m : Int) ≤ s.size := by omega
        have hm0 : (0 : Int) ≤ m := by omega
        have ha0 : (0 : Int) ≤ a := by omega
        have hc1I : (n : Int) ≤ q1 := by omega
        have Hg := Lib.hid hg
        have HAt2 := Lib.hid hAt2
        have HBr := Lib.hid hBr
        obtain ⟨W0, hW0⟩ : ∃ W0, W0 = wr.alloc (tokO kd tx a m) := ⟨_, rfl⟩
        have hg0 : W0.heap[wr.heap.size]? = some (tokO kd tx a m) := by rw [hW0]; exact block_new rfl
        have hb0 : wr.heap.size < W0.heap.size := (Array.getElem?_eq_some_iff.1 hg0).1
        have HC : ∀ (W : World), Below W0.heap.size W0 W → W.cell? ⟨wr.heap.size, 0, none⟩ = some (.int .i64 kd) ∧ W.cell? ⟨wr.heap.size, 1, none⟩ = some (.string tx) ∧ W.cell? ⟨wr.heap.size, 2, none⟩ = some (.int .i64 a) ∧ W.cell? ⟨wr.heap.size, 3, none⟩ = some (.int .i64 m) := by
          intro W hW
          refine ⟨?_, ?_, ?_, ?_⟩ <;> (rw [World.cell?_of_block (w := W0) (hW.block _ hb0), cell_at hg0]; rfl)
        have HC := Lib.hid HC
        have HB0 := Lib.hid hb0
        clear hg0 hb0
        have hBW : Below wr.heap.size wr W0 := by rw [hW0]; exact (Below.refl _ _).alloc (Nat.le_refl _) _
        have HBW := Lib.hid hBW
        have hP : Below W0.heap.size W0 W0.drew := ⟨rfl, rfl, rfl, Nat.le_refl _, fun _ _ => rfl⟩
        clear hg hAt hAt2 hnt hone ht hix hBr hBW
        go_wp2_with fail
        rw [← hW0]
        clear hW0
        have c1 : decide ((a : Int) < (k : Int)) = false := decide_eq_false (by omega)
        have c2 : decide ((m : Int) ≤ (a : Int)) = false := decide_eq_false (by omega)
        have c3 : decide ((s.size : Int) < (m : Int)) = false := decide_eq_false (by omega)
        have n1 : decide (a < k) = false := decide_eq_false (by omega)
        have n2 : decide (m ≤ a) = false := decide_eq_false (by omega)
        have n3 : decide (s.size < m) = false := decide_eq_false (by omega)
        refine Go.Proofs.YtlhkochpokhncaaDoor.region_tree (S := (fun w' => w'.cell? ⟨wr.heap.size, 0, none⟩ = some (.int .i64 kd) ∧ w'.cell? ⟨wr.heap.size, 1, none⟩ = some (.string tx) ∧ w'.cell? ⟨wr.heap.size, 2, none⟩ = some (.int .i64 a) ∧ w'.cell? ⟨wr.heap.size, 3, none⟩ = some (.int .i64 m))) (.take 0 (.take 1 (.take 2 (.take 3 (.take 4 (.take 5 (.take 6 (.take 7 (.take 8 (.take 9 (.take 10 (.take 11 (.take 12 (.take 13 (.take 14 (.take 15 (.take 16 (.take 17 (.take 18 (.take 19 (.take 20 (.take 21 (.take 22 (.take 23 (.take 24 (.take 25 (.take 26 (.take 27 (.take 28 (.take 29 (.take 30 (.take 31 (.take 32 (.take 33 (.take 34 (.step 35 (.take 36 (.take 37 (.nil))))))))))))))))))))))))))))))))))))))) (by kernel_rfl) (by kernel_rfl) (by kernel_rfl) ?_ ?_
        · ((try dsimp only); (first | done | (exact HC.out _ hP)))
        simp only [Go.Proofs.YtlhkochpokhncaaDoor.Plan.ops, List.getElem?_toArray, List.getElem?_cons_zero, List.getElem?_cons_succ]
        ((first | ((refine Go.Proofs.YtlhkochpokhncaaDoor.tree_yes (v := ?_) (by rfl) ?_ ?_); rotate_left; (focus (intro w hSw; (try dsimp only at hSw); go_simp; try (with_reducible rfl)))) | (refine Go.Proofs.YtlhkochpokhncaaDoor.tree_no (by rfl) ?_)); (try simp only [Act.put, List.setIfInBounds_toArray, List.set_cons_zero, List.set_cons_succ]))
        ((first | ((refine Go.Proofs.YtlhkochpokhncaaDoor.tree_yes (v := ?_) (by rfl) ?_ ?_); rotate_left; (focus (intro w hSw; (try dsimp only at hSw); go_simp; try (with_reducible rfl)))) | (refine Go.Proofs.YtlhkochpokhncaaDoor.tree_no (by rfl) ?_)); (try simp only [Act.put, List.setIfInBounds_toArray, List.set_cons_zero, List.set_cons_succ]))
        ((first | ((refine Go.Proofs.YtlhkochpokhncaaDoor.tree_yes (v := ?_) (by rfl) ?_ ?_); rotate_left; (focus (intro w hSw; (try dsimp only at hSw); go_simp; try (with_reducible rfl)))) | (refine Go.Proofs.YtlhkochpokhncaaDoor.tree_no (by rfl) ?_)); (try simp only [Act.put, List.setIfInBounds_toArray, List.set_cons_zero, List.set_cons_succ]))
        ((first | ((refine Go.Proofs.YtlhkochpokhncaaDoor.tree_yes (v := ?_) (by rfl) ?_ ?_); rotate_left; (focus (intro w hSw; (try dsimp only at hSw); go_simp; try (with_reducible rfl)))) | (refine Go.Proofs.YtlhkochpokhncaaDoor.tree_no (by rfl) ?_)); (try simp only [Act.put, List.setIfInBounds_toArray, List.set_cons_zero, List.set_cons_succ]))
        ((first | ((refine Go.Proofs.YtlhkochpokhncaaDoor.tree_yes (v := ?_) (by rfl) ?_ ?_); rotate_left; (focus (intro w hSw; (try dsimp only at hSw); go_simp; try (with_reducible rfl)))) | (refine Go.Proofs.YtlhkochpokhncaaDoor.tree_no (by rfl) ?_)); (try simp only [Act.put, List.setIfInBounds_toArray, List.set_cons_zero, List.set_cons_succ]))
        ((first | ((refine Go.Proofs.YtlhkochpokhncaaDoor.tree_yes (v := ?_) (by rfl) ?_ ?_); rotate_left; (focus (intro w hSw; (try dsimp only at hSw); go_simp; try (with_reducible rfl)))) | (refine Go.Proofs.YtlhkochpokhncaaDoor.tree_no (by rfl) ?_)); (try simp only [Act.put, List.setIfInBounds_toArray, List.set_cons_zero, List.set_cons_succ]))
        ((first | ((refine Go.Proofs.YtlhkochpokhncaaDoor.tree_yes (v := ?_) (by rfl) ?_ ?_); rotate_left; (focus (intro w hSw; (try dsimp only at hSw); go_simp; try (with_reducible rfl)))) | (refine Go.Proofs.YtlhkochpokhncaaDoor.tree_no (by rfl) ?_)); (try simp only [Act.put, List.setIfInBounds_toArray, List.set_cons_zero, List.set_cons_succ]))
        ((first | ((refine Go.Proofs.YtlhkochpokhncaaDoor.tree_yes (v := ?_) (by rfl) ?_ ?_); rotate_left; (focus (intro w hSw; (try dsimp only at hSw); go_simp; try (with_reducible rfl)))) | (refine Go.Proofs.YtlhkochpokhncaaDoor.tree_no (by rfl) ?_)); (try simp only [Act.put, List.setIfInBounds_toArray, List.set_cons_zero, List.set_cons_succ]))
        ((first | ((refine Go.Proofs.YtlhkochpokhncaaDoor.tree_yes (v := ?_) (by rfl) ?_ ?_); rotate_left; (focus (intro w hSw; (try dsimp only at hSw); go_simp; try (with_reducible rfl)))) | (refine Go.Proofs.YtlhkochpokhncaaDoor.tree_no (by rfl) ?_)); (try simp only [Act.put, List.setIfInBounds_toArray, List.set_cons_zero, List.set_cons_succ]))
        ((first | ((refine Go.Proofs.YtlhkochpokhncaaDoor.tree_yes (v := ?_) (by rfl) ?_ ?_); rotate_left; (focus (intro w hSw; (try dsimp only at hSw); go_simp; try (with_reducible rfl)))) | (refine Go.Proofs.YtlhkochpokhncaaDoor.tree_no (by rfl) ?_)); (try simp only [Act.put, List.setIfInBounds_toArray, List.set_cons_zero, List.set_cons_succ]))
        ((first | ((refine Go.Proofs.YtlhkochpokhncaaDoor.tree_yes (v := ?_) (by rfl) ?_ ?_); rotate_left; (focus (intro w hSw; (try dsimp only at hSw); go_simp; try (with_reducible rfl)))) | (refine Go.Proofs.YtlhkochpokhncaaDoor.tree_no (by rfl) ?_)); (try simp only [Act.put, List.setIfInBounds_toArray, List.set_cons_zero, List.set_cons_succ]))
        ((first | ((refine Go.Proofs.YtlhkochpokhncaaDoor.tree_yes (v := ?_) (by rfl) ?_ ?_); rotate_left; (focus (intro w hSw; (try dsimp only at hSw); go_simp; try (with_reducible rfl)))) | (refine Go.Proofs.YtlhkochpokhncaaDoor.tree_no (by rfl) ?_)); (try simp only [Act.put, List.setIfInBounds_toArray, List.set_cons_zero, List.set_cons_succ]))
        ((first | ((refine Go.Proofs.YtlhkochpokhncaaDoor.tree_yes (v := ?_) (by rfl) ?_ ?_); rotate_left; (focus (intro w hSw; (try dsimp only at hSw); go_simp; try (with_reducible rfl)))) | (refine Go.Proofs.YtlhkochpokhncaaDoor.tree_no (by rfl) ?_)); (try simp only [Act.put, List.setIfInBounds_toArray, List.set_cons_zero, List.set_cons_succ]))
        ((first | ((refine Go.Proofs.YtlhkochpokhncaaDoor.tree_yes (v := ?_) (by rfl) ?_ ?_); rotate_left; (focus (intro w hSw; (try dsimp only at hSw); go_simp; try (with_reducible rfl)))) | (refine Go.Proofs.YtlhkochpokhncaaDoor.tree_no (by rfl) ?_)); (try simp only [Act.put, List.setIfInBounds_toArray, List.set_cons_zero, List.set_cons_succ]))
        ((first | ((refine Go.Proofs.YtlhkochpokhncaaDoor.tree_yes (v := ?_) (by rfl) ?_ ?_); rotate_left; (focus (intro w hSw; (try dsimp only at hSw); go_simp; try (with_reducible rfl)))) | (refine Go.Proofs.YtlhkochpokhncaaDoor.tree_no (by rfl) ?_)); (try simp only [Act.put, List.setIfInBounds_toArray, List.set_cons_zero, List.set_cons_succ]))
        ((first | ((refine Go.Proofs.YtlhkochpokhncaaDoor.tree_yes (v := ?_) (by rfl) ?_ ?_); rotate_left; (focus (intro w hSw; (try dsimp only at hSw); go_simp; try (with_reducible rfl)))) | (refine Go.Proofs.YtlhkochpokhncaaDoor.tree_no (by rfl) ?_)); (try simp only [Act.put, List.setIfInBounds_toArray, List.set_cons_zero, List.set_cons_succ]))
        ((first | ((refine Go.Proofs.YtlhkochpokhncaaDoor.tree_yes (v := ?_) (by rfl) ?_ ?_); rotate_left; (focus (intro w hSw; (try dsimp only at hSw); go_simp; try (with_reducible rfl)))) | (refine Go.Proofs.YtlhkochpokhncaaDoor.tree_no (by rfl) ?_)); (try simp only [Act.put, List.setIfInBounds_toArray, List.set_cons_zero, List.set_cons_succ]))
        ((first | ((refine Go.Proofs.YtlhkochpokhncaaDoor.tree_yes (v := ?_) (by rfl) ?_ ?_); rotate_left; (focus (intro w hSw; (try dsimp only at hSw); go_simp; try (with_reducible rfl)))) | (refine Go.Proofs.YtlhkochpokhncaaDoor.tree_no (by rfl) ?_)); (try simp only [Act.put, List.setIfInBounds_toArray, List.set_cons_zero, List.set_cons_succ]))
        ((first | ((refine Go.Proofs.YtlhkochpokhncaaDoor.tree_yes (v := ?_) (by rfl) ?_ ?_); rotate_left; (focus (intro w hSw; (try dsimp only at hSw); go_simp; try (with_reducible rfl)))) | (refine Go.Proofs.YtlhkochpokhncaaDoor.tree_no (by rfl) ?_)); (try simp only [Act.put, List.setIfInBounds_toArray, List.set_cons_zero, List.set_cons_succ]))
        ((first | ((refine Go.Proofs.YtlhkochpokhncaaDoor.tree_yes (v := ?_) (by rfl) ?_ ?_); rotate_left; (focus (intro w hSw; (try dsimp only at hSw); go_simp; try (with_reducible rfl)))) | (refine Go.Proofs.YtlhkochpokhncaaDoor.tree_no (by rfl) ?_)); (try simp only [Act.put, List.setIfInBounds_toArray, List.set_cons_zero, List.set_cons_succ]))
        ((first | ((refine Go.Proofs.YtlhkochpokhncaaDoor.tree_yes (v := ?_) (by rfl) ?_ ?_); rotate_left; (focus (intro w hSw; (try dsimp only at hSw); go_simp; try (with_reducible rfl)))) | (refine Go.Proofs.YtlhkochpokhncaaDoor.tree_no (by rfl) ?_)); (try simp only [Act.put, List.setIfInBounds_toArray, List.set_cons_zero, List.set_cons_succ]))
        ((first | ((refine Go.Proofs.YtlhkochpokhncaaDoor.tree_yes (v := ?_) (by rfl) ?_ ?_); rotate_left; (focus (intro w hSw; (try dsimp only at hSw); go_simp; try (with_reducible rfl)))) | (refine Go.Proofs.YtlhkochpokhncaaDoor.tree_no (by rfl) ?_)); (try simp only [Act.put, List.setIfInBounds_toArray, List.set_cons_zero, List.set_cons_succ]))
        ((first | ((refine Go.Proofs.YtlhkochpokhncaaDoor.tree_yes (v := ?_) (by rfl) ?_ ?_); rotate_left; (focus (intro w hSw; (try dsimp only at hSw); go_simp; try (with_reducible rfl)))) | (refine Go.Proofs.YtlhkochpokhncaaDoor.tree_no (by rfl) ?_)); (try simp only [Act.put, List.setIfInBounds_toArray, List.set_cons_zero, List.set_cons_succ]))
        ((first | ((refine Go.Proofs.YtlhkochpokhncaaDoor.tree_yes (v := ?_) (by rfl) ?_ ?_); rotate_left; (focus (intro w hSw; (try dsimp only at hSw); go_simp; try (with_reducible rfl)))) | (refine Go.Proofs.YtlhkochpokhncaaDoor.tree_no (by rfl) ?_)); (try simp only [Act.put, List.setIfInBounds_toArray, List.set_cons_zero, List.set_cons_succ]))
        ((first | ((refine Go.Proofs.YtlhkochpokhncaaDoor.tree_yes (v := ?_) (by rfl) ?_ ?_); rotate_left; (focus (intro w hSw; (try dsimp only at hSw); go_simp; try (with_reducible rfl)))) | (refine Go.Proofs.YtlhkochpokhncaaDoor.tree_no (by rfl) ?_)); (try simp only [Act.put, List.setIfInBounds_toArray, List.set_cons_zero, List.set_cons_succ]))
        ((first | ((refine Go.Proofs.YtlhkochpokhncaaDoor.tree_yes (v := ?_) (by rfl) ?_ ?_); rotate_left; (focus (intro w hSw; (try dsimp only at hSw); go_simp; try (with_reducible rfl)))) | (refine Go.Proofs.YtlhkochpokhncaaDoor.tree_no (by rfl) ?_)); (try simp only [Act.put, List.setIfInBounds_toArray, List.set_cons_zero, List.set_cons_succ]))
        ((first | ((refine Go.Proofs.YtlhkochpokhncaaDoor.tree_yes (v := ?_) (by rfl) ?_ ?_); rotate_left; (focus (intro w hSw; (try dsimp only at hSw); go_simp; try (with_reducible rfl)))) | (refine Go.Proofs.YtlhkochpokhncaaDoor.tree_no (by rfl) ?_)); (try simp only [Act.put, List.setIfInBounds_toArray, List.set_cons_zero, List.set_cons_succ]))
        ((first | ((refine Go.Proofs.YtlhkochpokhncaaDoor.tree_yes (v := ?_) (by rfl) ?_ ?_); rotate_left; (focus (intro w hSw; (try dsimp only at hSw); go_simp; try (with_reducible rfl)))) | (refine Go.Proofs.YtlhkochpokhncaaDoor.tree_no (by rfl) ?_)); (try simp only [Act.put, List.setIfInBounds_toArray, List.set_cons_zero, List.set_cons_succ]))
        ((first | ((refine Go.Proofs.YtlhkochpokhncaaDoor.tree_yes (v := ?_) (by rfl) ?_ ?_); rotate_left; (focus (intro w hSw; (try dsimp only at hSw); go_simp; try (with_reducible rfl)))) | (refine Go.Proofs.YtlhkochpokhncaaDoor.tree_no (by rfl) ?_)); (try simp only [Act.put, List.setIfInBounds_toArray, List.set_cons_zero, List.set_cons_succ]))
        ((first | ((refine Go.Proofs.YtlhkochpokhncaaDoor.tree_yes (v := ?_) (by rfl) ?_ ?_); rotate_left; (focus (intro w hSw; (try dsimp only at hSw); go_simp; try (with_reducible rfl)))) | (refine Go.Proofs.YtlhkochpokhncaaDoor.tree_no (by rfl) ?_)); (try simp only [Act.put, List.setIfInBounds_toArray, List.set_cons_zero, List.set_cons_succ]))
        ((first | ((refine Go.Proofs.YtlhkochpokhncaaDoor.tree_yes (v := ?_) (by rfl) ?_ ?_); rotate_left; (focus (intro w hSw; (try dsimp only at hSw); go_simp; try (with_reducible rfl)))) | (refine Go.Proofs.YtlhkochpokhncaaDoor.tree_no (by rfl) ?_)); (try simp only [Act.put, List.setIfInBounds_toArray, List.set_cons_zero, List.set_cons_succ]))
        ((first | ((refine Go.Proofs.YtlhkochpokhncaaDoor.tree_yes (v := ?_) (by rfl) ?_ ?_); rotate_left; (focus (intro w hSw; (try dsimp only at hSw); go_simp; try (with_reducible rfl)))) | (refine Go.Proofs.YtlhkochpokhncaaDoor.tree_no (by rfl) ?_)); (try simp only [Act.put, List.setIfInBounds_toArray, List.set_cons_zero, List.set_cons_succ]))
        ((first | ((refine Go.Proofs.YtlhkochpokhncaaDoor.tree_yes (v := ?_) (by rfl) ?_ ?_); rotate_left; (focus (intro w hSw; (try dsimp only at hSw); go_simp; try (with_reducible rfl)))) | (refine Go.Proofs.YtlhkochpokhncaaDoor.tree_no (by rfl) ?_)); (try simp only [Act.put, List.setIfInBounds_toArray, List.set_cons_zero, List.set_cons_succ]))
        ((first | ((refine Go.Proofs.YtlhkochpokhncaaDoor.tree_yes (v := ?_) (by rfl) ?_ ?_); rotate_left; (focus (intro w hSw; (try dsimp only at hSw); go_simp; try (with_reducible rfl)))) | (refine Go.Proofs.YtlhkochpokhncaaDoor.tree_no (by rfl) ?_)); (try simp only [Act.put, List.setIfInBounds_toArray, List.set_cons_zero, List.set_cons_succ]))
        ((first | ((refine Go.Proofs.YtlhkochpokhncaaDoor.tree_yes (v := ?_) (by rfl) ?_ ?_); rotate_left; (focus (intro w hSw; (try dsimp only at hSw); go_simp; try (with_reducible rfl)))) | (refine Go.Proofs.YtlhkochpokhncaaDoor.tree_no (by rfl) ?_)); (try simp only [Act.put, List.setIfInBounds_toArray, List.set_cons_zero, List.set_cons_succ]))
        ((refine Go.Proofs.YtlhkochpokhncaaDoor.tree_step (fun K hK => ?_)); (first | (first | (go_at_call 18; refine (HN.out _).mono ?_; rintro e w5 ⟨rfl, hB5⟩; have hP := Below.trans hP (Below.mono (h := hB5) hP.size))) | (go_simp; (first | (go_at_call 18; refine (HN.out _).mono ?_; rintro e w5 ⟨rfl, hB5⟩; have hP := Below.trans hP (Below.mono (h := hB5) hP.size))); (try go_wp2_with fail)) | go_simp); (refine hK.out _ _ ?_ (fun hHeld => ?_)); (focus ((try dsimp only); (first | done | (exact HC.out _ hP)))); clear hK K; (try simp only [Act.put, List.setIfInBounds_toArray, List.set_cons_zero, List.set_cons_succ]))
        ((first | ((refine Go.Proofs.YtlhkochpokhncaaDoor.tree_yes (v := ?_) (by rfl) ?_ ?_); rotate_left; (focus (intro w hSw; (try dsimp only at hSw); go_simp; try (with_reducible rfl)))) | (refine Go.Proofs.YtlhkochpokhncaaDoor.tree_no (by rfl) ?_)); (try simp only [Act.put, List.setIfInBounds_toArray, List.set_cons_zero, List.set_cons_succ]))
        ((first | ((refine Go.Proofs.YtlhkochpokhncaaDoor.tree_yes (v := ?_) (by rfl) ?_ ?_); rotate_left; (focus (intro w hSw; (try dsimp only at hSw); go_simp; try (with_reducible rfl)))) | (refine Go.Proofs.YtlhkochpokhncaaDoor.tree_no (by rfl) ?_)); (try simp only [Act.put, List.setIfInBounds_toArray, List.set_cons_zero, List.set_cons_succ]))
        refine Go.Proofs.YtlhkochpokhncaaDoor.tree_done ?_
        all_goals
          go_wp2_with fail
          refine (A2.out w5).mono ?_
          rintro e w6 ⟨⟨p2, q2, rfl, hS2⟩, hR2⟩
          have hP6 := Below.trans hP (Below.mono (h := hR2.whole hS2) hP.size)
          obtain ⟨b2, o2, rfl, hc2, hb2, d0, d1, d2, d3⟩ := tok_at (l := [⟨kd2, tx, 0, (tx.size : Int)⟩]) hS2 0 (Nat.lt_succ_self 0)
          have x1 := (HC.out _ hP6).2.1
          have x3 := (HC.out _ hP6).2.2.2
          have hbx : wr.heap.size < w6.heap.size := Nat.lt_of_lt_of_le HB0.out hP6.size
          have HC6 : ∀ (W : World), Below w6.heap.size w6 W → W.cell? ⟨b2, o2 + 1, none⟩ = some (.string tx) ∧ W.cell? ⟨wr.heap.size, 1, none⟩ = some (.string tx) ∧ W.cell? ⟨wr.heap.size, 3, none⟩ = some (.int .i64 m) := by
            intro W hW
            have d1' : w6.cell? ⟨b2, o2 + 1, none⟩ = some (.string tx) := by
              rw [Nat.zero_mul, Nat.add_zero] at d1; exact d1
            exact ⟨(World.cell?_of_block (w := w6) (hW.block _ hb2)).trans d1', (World.cell?_of_block (w := w6) (hW.block _ hbx)).trans x1, (World.cell?_of_block (w := w6) (hW.block _ hbx)).trans x3⟩
          have HC6 := Lib.hid HC6
          have HP6 := Lib.hid hP6
          have hc2I : (1 : Int) ≤ q2 := by have : 1 ≤ q2 := hc2; omega
          clear hS2 hR2 d0 d1 d2 d3 x1 x3 hP hHeld hB5 hbx
          have hP : Below w6.heap.size w6 w6.drew := ⟨rfl, rfl, rfl, Nat.le_refl _, fun _ _ => rfl⟩
          go_wp2_with fail
          refine Go.Proofs.YtlhkochpokhncaaDoor.region_plan (S := (fun w' => w'.cell? ⟨b2, o2 + 1, none⟩ = some (.string tx) ∧ w'.cell? ⟨wr.heap.size, 1, none⟩ = some (.string tx) ∧ w'.cell? ⟨wr.heap.size, 3, none⟩ = some (.int .i64 m))) [(0, true), (1, true), (2, true), (3, true), (4, true), (5, true), (6, true), (7, true), (8, true), (9, true), (10, true), (11, true), (12, true), (13, true), (14, true), (15, true)] (by kernel_rfl) (by kernel_rfl) (by kernel_rfl) ?_ ?_
          · ((try dsimp only); (first | done | (exact HC6.out _ hP)))
          simp only [Go.Proofs.YtlhkochpokhncaaDoor.planOps, List.map_cons, List.map_nil, List.getElem?_toArray, List.getElem?_cons_zero, List.getElem?_cons_succ]
          repeat (first
            | ((refine Go.Proofs.YtlhkochpokhncaaDoor.plan_yes (v := ?_) (by rfl) ?_ ?_); rotate_left; (focus (intro w hSw; (try dsimp only at hSw); go_simp; try (with_reducible rfl))); (try simp only [Act.put, List.setIfInBounds_toArray, List.set_cons_zero, List.set_cons_succ]))
            | ((refine Go.Proofs.YtlhkochpokhncaaDoor.plan_no (by rfl) ?_); (try simp only [Act.put, List.setIfInBounds_toArray, List.set_cons_zero, List.set_cons_succ]))
            | ((refine Go.Proofs.YtlhkochpokhncaaDoor.plan_step (fun K hK => ?_)); (first | (fail) | (go_simp; (fail); (try go_wp2_with fail)) | go_simp); (refine hK.out _ _ ?_ (fun hHeld => ?_)); (focus ((try dsimp only); (first | done | (exact HC6.out _ hP)))); clear hK K; (try simp only [Act.put, List.setIfInBounds_toArray, List.set_cons_zero, List.set_cons_succ])))
          refine Go.Proofs.YtlhkochpokhncaaDoor.plan_done ?_
          go_wp2_with fail
          have HPP := Lib.hid (HBr.out.trans (Below.mono (h := (HBW.out.trans (Below.mono (h := (HP6.out.trans (Below.mono (h := hP) HP6.out.size))) HBW.out.size))) HBr.out.size))
          go_roundg (gk - 1)
          case measure => have := Hg.out; have := Hn.out.1; omega
          case rel => exact ⟨i + 1, m, G - 1, by go_num, rfl, by have := Hg.out; have := Hn.out.1; omega, HAt2.out, HPP.out⟩
      · have hiI : ¬ ((i : Int) < n) := by omega
        have hie : xs.take i = xs := List.take_of_length_le (by have := Hn.out.1; omega)
        rw [hie] at hAt
        obtain ⟨hks, hend⟩ := tile_end hAt h4k
        have hks0 : (k : Int) ≤ s.size := by omega
        have HB3 := Lib.hid (HB.out.trans (Below.mono (h := hBr) HB.out.size))
        clear hAt hie hg hBr
        rcases hend with ⟨hf, hnt⟩ | ⟨a, hf, hka, has, hnt⟩
        · obtain ⟨rfl, rfl⟩ := Prod.mk.inj hf
          obtain ⟨gx, hgx⟩ : ∃ t, s.extract k s.size = t := ⟨_, rfl⟩
          rw [hgx] at hnt
          have hgxs : (gx.size : Int) ≤ 1000000 := by rw [← hgx, ByteArray.size_extract]; omega
          have HN := Lib.hid (nothing_calls gx hgxs)
          rw [hnt] at HN
          clear hnt hf
          go_wp2_with fail
          refine (HN.out _).mono ?_
          rintro e w3 ⟨rfl, hB3⟩
          have hP := HB3.out.trans (Below.mono (h := hB3) HB3.out.size)
          clear hB3
          go_wp2_with fail
          refine (HA.out _).mono ?_
          rintro e w4 ⟨rfl, hB4⟩
          have HF := Lib.hid (hP.trans (Below.mono (h := hB4) hP.size))
          clear hB4
          go_wp2_with fail
          go_ret
          exact ⟨rfl, HF.out⟩
        · obtain ⟨rfl, rfl⟩ := Prod.mk.inj hf
          obtain ⟨gx, hgx⟩ : ∃ t, s.extract k a = t := ⟨_, rfl⟩
          rw [hgx] at hnt
          have hgxs : (gx.size : Int) ≤ 1000000 := by rw [← hgx, ByteArray.size_extract]; omega
          have HN := Lib.hid (nothing_calls gx hgxs)
          rw [hnt] at HN
          have hka0 : (k : Int) ≤ a := by omega
          have has0 : (a : Int) < s.size := by omega
          have has1 : (a : Int) ≤ s.size := by omega
          clear hnt hf
          go_wp2_with fail
          refine (HN.out _).mono ?_
          rintro e w3 ⟨rfl, hB3⟩
          have hP := HB3.out.trans (Below.mono (h := hB3) HB3.out.size)
          clear hB3
          go_wp2_with fail
          refine (HA.out _).mono ?_
          rintro e w4 ⟨rfl, hB4⟩
          have HF := Lib.hid (hP.trans (Below.mono (h := hB4) hP.size))
          clear hB4
          go_wp2_with fail
          go_ret
          exact ⟨rfl, HF.out⟩

set_option maxRecDepth 100000 in
theorem lifted (os : Os) (started : os.Started) (H : Type) (enc : TypeId × Value → H) :
    ReturnsInHanded {} Tryd.checked os 6 .any (fun w args => (Rows.lexerTilesSpec.pre enc Tryd.prog Tryd.f6 Rows.lexerTilesRow.domain false w args ∧ laidMetH Tryd.prog Rows.lexerTilesRow.laid w) ∧ sizedMet enc Tryd.prog Tryd.f6 (OpenSpec.ofChange Rows.lexerTilesSpec) false w args) (Rows.lexerTilesSpec.post enc Tryd.prog Tryd.f6 false true false false) := by
  refine returnsInHanded_of_change_and (C := Tryd.checked) (X := fun w _ => laidMetH Tryd.prog Rows.lexerTilesRow.laid w) (fun _ _ _ hh h => h.of_heap hh) own started (by kernel_rfl) Tryd.func6
    (ChangeSpec.witness_shaped (enc := enc) (C := Tryd.checked) (os := os) (X := fun w _ => laidMetH Tryd.prog Rows.lexerTilesRow.laid w) false (World.laidAll Tryd.prog os Rows.lexerTilesRow.laid) #[.string ⟨#[]⟩] 8 (World.laidAll_os _ _ _)
      (World.shaped_of_ZipB (by kernel_rfl) (by kernel_rfl)) (by kernel_rfl) (by kernel_rfl) (by kernel_rfl)
      (by rw [MakeChecks.laidMetH_plain _ _ _ (by kernel_rfl)]; exact laidMet_laidAll _ (by kernel_rfl) (by kernel_rfl))) ?_
  intro W base args ds gs before hval0 hW hcnd _ hL _
  have hval : ∀ (j : Nat) t v, Tryd.f6.params[j]? = some t → args[j]? = some v → Value.okWide Tryd.prog W .any base t v := hval0
  have hW' := hW
  obtain ⟨p, q, hA0, hV, rfl, hfz, hnd⟩ := hW
  have hA : DataW.TrodAll enc Tryd.prog W 0 (fun _ => true) true Tryd.f6.params.toList args.toList ds p := hA0
  rw [Tryd.params6] at hA hval
  obtain ⟨v0, vs0, d0, ds0, p0, q0, hargs, rfl, rfl, h0, r0⟩ := trodAll_cons hA
  obtain ⟨rfl, rfl, rfl⟩ := trodAll_nil r0
  obtain rfl : args = #[v0] := by cases args; simp_all
  obtain ⟨rfl, rfl⟩ := trodVars_none hV
  obtain ⟨s0, rfl, rfl, rfl, w0⟩ := open_string Tryd.underlying9 (hval 0 9 v0 rfl rfl) h0
  clear hA0 hval0
  refine (walk s0 W (by unfold maxLen at w0; omega)).mono fun e W' ⟨he, bel⟩ => ?_
  subst he
  exact ⟨_, rfl, _, _, _, [], _, [], hW', trodAll_mk1 (shut_bool Tryd.underlying4 _), (trodAll_cons_mk (shut_string Tryd.underlying9 w0) trodAll_mk0), rfl, bel.frame _, fun h => by cases h⟩

theorem over : Rows.lexerTilesRow.holds Tryd.pinned (OpenSpec.ofChange Rows.lexerTilesSpec) :=
  OpenClaim.holds_of_wide 6 Tryd.f6 rfl rfl rfl rfl rfl rfl rfl ⟨rfl, rfl, rfl, rfl, rfl⟩ rfl rfl rfl rfl rfl (by kernel_rfl) Tryd.func6 (by kernel_rfl)
    (of_decide_eq_true (by kernel_rfl)) (by unfold Func.isWrapper; first | (rw [if_pos (by decide +kernel)]; kernel_rfl) | (rw [if_neg (by decide +kernel)]; exact ⟨rfl, rfl⟩))
    (fun os started H enc _ => lifted os started H enc)

theorem proved : Rows.LexerTilesCardSaid :=
  Claim7.holds_tied_plain_at .later [] [.data, .pinned] true (true, "4c79555ad02daef53123237e431fdc6bc5e59d07fbb8e17f724265a7ee9d4d92") false over (fun _ h => by cases h) (by kernel_rfl) (fun _ h => by cases h) lexerTiles_row_tie rfl ⟨rfl, rfl⟩ (by kernel_rfl) rfl
    (fun f fn hf hfn => by
      obtain rfl : f = 6 := Option.some.inj ((show Tryd.prog.funcNamed "whelk/whelklaw11.LexerTiles" = some 6 by kernel_rfl).symm.trans hf) |>.symm
      obtain rfl : fn = Tryd.f6 := (Option.some.inj (Tryd.func6.symm.trans hfn)).symm
      exact ⟨by kernel_rfl, fun j t ht => by
        rw [Tryd.params6] at ht
        have hm : t ∈ [9] := by simpa using Array.mem_of_getElem? ht
        have hall : ([9].all fun u => !Tryd.prog.wantsStandIn u) = true := by kernel_rfl
        exact (show Tryd.prog.wantsStandIn t = false by simpa using List.all_eq_true.1 hall t hm)⟩)
    (by kernel_rfl)
#print axioms proved
end Go.Proofs.YtlhkochpokhncaaDoor.lexerTiles
