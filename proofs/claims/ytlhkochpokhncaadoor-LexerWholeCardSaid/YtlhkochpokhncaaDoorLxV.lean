/- Appends of things; the document's All walked. -/
import Derived.Test.YtlhkochpokhncaaDoorLxU
import Derived.OwnWalkIn
namespace Go.Proofs.YtlhkochpokhncaaDoor.Lexer
open Go.RowKit Go.Proofs.YtlhkochpokhncaaDoor Go.Proofs.YtlhkochpokhncaaDoor.Hp
set_option linter.unusedVariables false
attribute [local go_sem] Oper.semAt_some

theorem allA_len (s : ByteArray) (g k : Nat) (hk : k ≤ s.size) : (allA s g (k : Int)).1.length ≤ s.size - k ∧ (allA s g (k : Int)).1.length ≤ 4096 := by
  induction g generalizing k with
  | zero => exact ⟨Nat.zero_le _, Nat.zero_le _⟩
  | succ g ih =>
    by_cases he : (nextA s (k : Int)).2 = 0
    · by_cases hkd : (nextA s (k : Int)).1.kind = 0
      · rw [allA_end he hkd]; exact ⟨Nat.zero_le _, Nat.zero_le _⟩
      · obtain ⟨h4, _, a, m, e1, e2, e3, e4, e5, _⟩ := nextA_prog s k he hkd
        rw [allA_cons he hkd, e2]
        have := ih m e5
        simp only [List.length_cons]
        omega
    · rw [allA_bad he]; exact ⟨Nat.zero_le _, Nat.zero_le _⟩
theorem allP_len (s : ByteArray) : (allP s).1.length ≤ 4096 := (allA_len s (s.size + 1) 0 (Nat.zero_le _)).2
def tkC (t : Tok) : List Value := [.int .i64 t.kind, .string t.text, .int .i64 t.at_, .int .i64 t.stop]
def tks (l : List Tok) : List Value := l.flatMap tkC
theorem tks_len (l : List Tok) : (tks l).length = l.length * 4 := by
  induction l with
  | nil => rfl
  | cons a l ih => unfold tks at ih ⊢; rw [List.flatMap_cons, List.length_append, ih, List.length_cons]; show 4 + _ = _; omega
theorem tks_snoc (l : List Tok) (t : Tok) : tks (l ++ [t]) = tks l ++ tkC t := by unfold tks; rw [List.flatMap_append]; simp
abbrev tokA (p : Option Addr) (cap : Nat) (l : List Tok) : Hp := arr 32 4 p l.length cap (tks l)
abbrev tokB (p : Option Addr) (cap : Nat) (l : List Tok) : Hp := arr 33 4 p l.length cap (tks l)
theorem infoTk : (Tryd.prog.info? 32).map (fun i => (i.zero, i.size, i.bytes)) = some (some (.agg #[.int .i64 0, .string ⟨#[]⟩, .int .i64 0, .int .i64 0]), 4, 40) := by kernel_rfl
theorem infoTr : (Tryd.prog.info? 33).map (fun i => (i.zero, i.size, i.bytes)) = some (some (.agg #[.int .i64 0, .string ⟨#[]⟩, .int .i64 0, .int .i64 0]), 4, 40) := by kernel_rfl
theorem appTr {w : World} {H : Hp} {ops : Array Oper} {rest : List Oper} {o : Oper} {a : Act} {Q : Exit → Act → World → Prop} (hgd : o.guard = none) (s x : Operand)
    (ho : o.op = .call { callee := .builtin .append, args := #[s, x], argTypes := #[27, 27] })
    (p : Option Addr) (n cap : Nat) (xs : List Value) (hp : a.eval s = .slice p n cap) (b : Nat) (hvx : a.eval x = .slice (some ⟨b, 0, none⟩) 1 1) (h : Sat w (arr 33 4 p n cap xs * H)) (t : Tok) (hb : w.heap[b]? = some (.cells (tkC t).toArray 33 (0, 0))) (hn : n ≤ 1000000000)
    (hk : ∀ p' cap' w', Sat w' (arr 33 4 p' (n + 1) cap' (xs ++ tkC t) * H) → Ran w w' → wpList Tryd.prog ops Q rest (a.put o.dst (.slice p' (n + 1) cap')) w') : wpList Tryd.prog ops Q (o :: rest) a w := by
  obtain ⟨i0, hi, hz0, hz1, hz2⟩ := info_parts infoTr
  refine wpList_append_arr hgd s x _ _ ho 33 i0 _ 4 40 Tryd.underlying27 hi hz0 hz1 hz2 rfl p n cap xs hp h _ hvx 1 (tkC t) (Src.ofSlice w Tryd.underlying27 ⟨b, 0, none⟩ 1 1 (tkC t) (by rw [hz1]; rfl) ?_ (by unfold tkC; simp; exact ⟨rfl, rfl, rfl, rfl⟩)) (by omega) (by unfold maxLen; omega) (fun p' cap' w' h1 h2 _ => hk p' cap' w' h1 h2)
  intro j u hj
  rw [Addr.add_lit, Nat.zero_add, cell_at hb, ← hj]
  simp
theorem appTkIn {F : Fence} {n0 : Nat} {w : World} {H : Hp} {ops : Array Oper} {rest : List Oper} {o : Oper} {a : Act} {Q : Exit → Act → World → Prop} (hgd : o.guard = none) (s x : Operand)
    (ho : o.op = .call { callee := .builtin .append, args := #[s, x], argTypes := #[23, 23] })
    (p : Option Addr) (n cap : Nat) (xs : List Value) (hp : a.eval s = .slice p n cap) (b : Nat) (hvx : a.eval x = .slice (some ⟨b, 0, none⟩) 1 1) (h : Sat w (arr 32 4 p n cap xs * H)) (t : Tok) (hb : w.heap[b]? = some (.cells (tkC t).toArray 32 (0, 0))) (hn : n ≤ 1000000000)
    (hk : ∀ p' cap' w', Sat w' (arr 32 4 p' (n + 1) cap' (xs ++ tkC t) * H) → Ran w w' → wpListIn F n0 Tryd.prog ops Q rest (a.put o.dst (.slice p' (n + 1) cap')) w') : wpListIn F n0 Tryd.prog ops Q (o :: rest) a w := by
  obtain ⟨i0, hi, hz0, hz1, hz2⟩ := info_parts infoTk
  refine wpListIn_plain hgd fun K hK' => ?_
  obtain ⟨p', cap', w', hr, h1, h2, _⟩ := run_append_arr (P := Tryd.prog) 23 23 o.type 32 i0 _ 4 40 Tryd.underlying23 hi hz0 hz1 hz2 rfl p n cap xs h (.slice (some ⟨b, 0, none⟩) 1 1) 1 (tkC t) (Src.ofSlice w Tryd.underlying23 ⟨b, 0, none⟩ 1 1 (tkC t) (by rw [hz1]; rfl) (by
    intro j u hj
    rw [Addr.add_lit, Nat.zero_add, cell_at hb, ← hj]
    simp) (by unfold tkC; simp; exact ⟨rfl, rfl, rfl, rfl⟩)) (by omega) (by unfold maxLen; omega)
  unfold Oper.wpIn
  refine ⟨?_, ?_⟩
  · simp [Oper.about, ho, resolve, Target.leads, Sem.run_pure]
  · rw [Oper.semAt_plain F _ _ (by rw [ho]; intro c hc'; cases hc')]
    simp [execOp, ho, resolve, invoke, builtin, hp, hvx, hr, Result.andThen]
    exact hK' _ _ (hk p' cap' w' h1 h2)
def RAPost (s : ByteArray) (S : Hp) (e : Ending) (w' : World) : Prop :=
  ∃ p cap, e = .returned (.tuple #[.slice p (allP s).1.length cap, .int .i64 (allP s).2.1, .int .i64 (allP s).2.2]) ∧ Sat w' (tokB p cap (allP s).1 * S)
def RaRel (s : ByteArray) (xs : List Tok) (f : Int × Int) (w : World) (g : Nat) (ov zv : Value) (wr : World) : Prop :=
  ∃ (k : Nat) (pre : List Tok) (p : Option Addr) (cap : Nat), ov = .slice p pre.length cap ∧ zv = .int .i64 (k : Int) ∧ AllAt s xs f g pre k ∧ pre.length ≤ 4096 ∧ Sat wr (tokB p cap pre * keep w) ∧ Ran w wr
set_option maxRecDepth 100000 in
set_option maxHeartbeats 8000000 in
theorem rall_calls (s : ByteArray) (h63 : (s.size : Int) ≤ 9223372036854775807) (w : World) :
    Calls Tryd.prog 11 #[.string s] w fun e w' => RAPost s (keep w) e w' ∧ Ran w w' := by
  obtain ⟨xs, hxs⟩ : ∃ xs, xs = (allP s).1 := ⟨_, rfl⟩
  obtain ⟨f, hf⟩ : ∃ f, f = (allP s).2 := ⟨_, rfl⟩
  have hA := allAt_start s
  have hlen := allP_len s
  unfold RAPost
  rw [← hxs] at hA hlen ⊢
  rw [← hf] at hA ⊢
  have HA := Lib.hid hA
  have HL := Lib.hid hlen
  have H0 := Lib.hid ((Sat.start w).nil_arr 33 4)
  clear hA hxs hf hlen
  go_enter Tryd.func11, Tryd.ntmps11
  go_wp2_with fail
  go_loopg [5, 6, 7, 8] (s.size + 1) (fun g ov zv _ _ wr => RaRel s xs f w g ov zv wr)
  case atStart => exact ⟨0, [], none, 0, rfl, rfl, HA.out, Nat.zero_le _, H0.out, Below.refl _ _⟩
  case round =>
    obtain ⟨k, pre, p, cap, rfl, rfl, hAt, hpl, hS, hR⟩ := hrel
    have HN := Lib.hid (rnext_calls s k wr h63)
    obtain ⟨r, hr⟩ : ∃ r, r = nextA s (k : Int) := ⟨_, rfl⟩
    rw [← hr] at HN
    have HS := Lib.hid hS
    have HAt := Lib.hid hAt
    have Hr := Lib.hid hr
    clear hS hAt hr
    go_wp2_with fail
    refine HN.out.mono ?_
    rintro e w1 ⟨rfl, hB1⟩
    have hS1 := HS.out.below hB1
    have hR1 := Ran.below hR hB1
    clear HN hB1 HS hR
    obtain ⟨⟨kd, tx, ta, ts⟩, er⟩ := r
    have hA2 := hS1.alloc (tokR kd tx ta ts)
    have hR2 := Ran.new hR1 (tokR kd tx ta ts)
    obtain ⟨t0, t1, t2, t3, tz⟩ := tokR_cells hA2
    have HS2 := Lib.hid hA2.right
    have HA2 := Lib.hid hA2
    clear hA2 hS1 hR1
    obtain ⟨pl, hpl2⟩ : ∃ n, n = pre.length := ⟨_, rfl⟩
    rw [← hpl2] at hpl ⊢
    by_cases her : er = 0
    · subst her
      by_cases hk : kd = 0
      · subst hk
        obtain ⟨e1, e2⟩ := HAt.out.stop (by rw [← Hr.out]) (by rw [← Hr.out])
        have HF := Lib.hid (And.intro e1 e2)
        have Hpl := Lib.hid hpl2
        clear e1 e2 hpl2
        go_wp2_with fail
        go_ret3
        refine ⟨⟨p, cap, by rw [HF.out.1, HF.out.2, ← Hpl.out]; rfl, ?_⟩, hR2⟩
        rw [HF.out.1]; exact HS2.out
      · have hkB : (kd == 0) = false := by rw [beq_eq_false_iff_ne]; exact hk
        obtain ⟨hg0, m, post, e1, e2, e3, e4⟩ := HAt.out.next (by rw [← Hr.out]) (by rw [← Hr.out]; exact hk)
        rw [← Hr.out] at e1 e2 e3
        have e1 : ts = (m : Int) := e1
        subst e1
        have hpl3 : pre.length + 1 ≤ 4096 := by
          have h1 := congrArg List.length e2
          rw [List.length_append, List.length_cons] at h1
          have := HL.out; omega
        have E3 := Lib.hid (And.intro hg0 (And.intro e3 hpl3))
        have HSB : Sat _ (arr 33 4 p pre.length cap (tks pre) * (pts w1.heap.size (tokR kd tx ta (m : Int)) * keep w)) := (pull1 HA2.out).old (tokR kd tx ta (m : Int))
        rw [← hpl2] at HSB
        have Hpl := Lib.hid hpl2
        clear e2 e3 hpl2 hpl3
        go_wp2_with (at_builtin; go_loud (refine appTr rfl _ _ rfl p pl cap _ rfl _ rfl HSB ⟨kd, tx, ta, (m : Int)⟩ (by rw [block_new (by simp)]; rfl) (by omega) ?_; intro p' cap' w6 HS7 HR7; clear HSB t0 t1 t2 t3 tz; obtain ⟨t0, t1, t2, t3, tz⟩ := tokR_cells (pull1 HS7)))
        go_roundg (gk - 1)
        case measure => have := E3.out.1; omega
        case rel => exact ⟨m, pre ++ [⟨kd, tx, ta, (m : Int)⟩], p', cap', by rw [List.length_append, ← Hpl.out]; rfl, rfl, E3.out.2.1, by rw [List.length_append]; exact E3.out.2.2, by unfold tokB; rw [tks_snoc, List.length_append, ← Hpl.out]; exact (pull1 HS7).right, Below.trans (Ran.new hR2 _) HR7⟩
    · have herB : (er != 0) = true := by rw [bne_iff_ne]; exact her
      obtain ⟨e1, e2⟩ := HAt.out.bad (by rw [← Hr.out]; exact her)
      rw [← Hr.out] at e2
      have HF := Lib.hid (And.intro e1 e2)
      have Hpl := Lib.hid hpl2
      clear e1 e2 hpl2
      go_wp2_with fail
      go_quiet (fail)
      go_wp2_with fail
      go_ret3
      refine ⟨⟨p, cap, by rw [HF.out.1, HF.out.2, ← Hpl.out]; rfl, ?_⟩, Ran.drewN hR2 _⟩
      rw [HF.out.1]; exact HS2.out.drewN _
end Go.Proofs.YtlhkochpokhncaaDoor.Lexer
