/- What stays true of a state, whatever is called. -/
import Derived.Test.YtlmjidandjemjaaGreatDoorStDp
namespace Go.Proofs.YtlmjidandjemjaaGreatDoor.State
open Go.RowKit Go.Proofs.YtlmjidandjemjaaGreatDoor Go.Proofs.YtlmjidandjemjaaGreatDoor.Hp Go.Proofs.YtlmjidandjemjaaGreatDoor.Undo
set_option linter.unusedVariables false

theorem len_subset : ∀ (l L : List ByteArray), l.Pairwise (· ≠ ·) → (∀ x ∈ l, x ∈ L) → l.length ≤ L.length
  | [], L, _, _ => Nat.zero_le _
  | a :: t, L, hp, hs => by
    have hp' := List.pairwise_cons.1 hp
    have ha : a ∈ L := hs a List.mem_cons_self
    have h1 := len_subset t (L.filter fun x => decide (x ≠ a)) hp'.2 (fun x hx => List.mem_filter.2 ⟨hs x (List.mem_cons_of_mem _ hx), decide_eq_true (fun e => hp'.1 x hx e.symm)⟩)
    have h2 : (L.filter fun x => decide (x ≠ a)).length < L.length := List.length_filter_lt_length_iff_exists.2 ⟨a, ha, by simp⟩
    rw [List.length_cons]
    omega
theorem KeysOf.distinct {α : Type} {M : ByteArray → Option α} {ks : List ByteArray} (h : KeysOf M ks) : ks.Pairwise (· ≠ ·) :=
  h.1.imp fun {a b} hab e => by subst e; exact absurd hab (List.lt_irrefl _)
theorem signal_mem {k : ByteArray} (h : isSignal k = true) : k ∈ [sEXIT, sHUP, sINT, sTERM, sUSR1] := by
  unfold isSignal at h
  simp only [Bool.or_eq_true, decide_eq_true_eq] at h
  simp only [List.mem_cons, List.not_mem_nil, or_false]
  rcases h with (((h | h) | h) | h) | h
  · exact .inl h
  · exact .inr (.inl h)
  · exact .inr (.inr (.inl h))
  · exact .inr (.inr (.inr (.inl h)))
  · exact .inr (.inr (.inr (.inr h)))
theorem signal_size {k : ByteArray} (h : isSignal k = true) : k.size ≤ 4 := by
  have := signal_mem h
  simp only [List.mem_cons, List.not_mem_nil, or_false] at this
  rcases this with rfl | rfl | rfl | rfl | rfl <;> decide
/-- What is known is not too great. -/
structure GoodP (s : Pst) : Prop where
  o : OOk s.o
  V : ∀ k, (s.V k).isSome = true → k.size ≤ 5000 ∧ (s.var k).val.size ≤ 5000
  A : ∀ k, (s.A k).isSome = true → k.size ≤ 5000
  T : ∀ k, (s.T k).isSome = true → isSignal k = true
  l : s.l.length ≤ 1100
structure GoodN (c : Nat) (n : Now) : Prop where
  s : GoodP n.s
  hist : ∀ s ∈ n.hist, GoodP s
  ms : n.ms.length ≤ 20
  N : n.N ≤ c
theorem GoodN.le {c d : Nat} {n : Now} (h : GoodN c n) (hc : c ≤ d) : GoodN d n := ⟨h.s, h.hist, h.ms, Nat.le_trans h.N hc⟩
theorem keysT_le {s : Pst} (h : GoodP s) {ks : List ByteArray} (hk : KeysOf s.T ks) : ks.length ≤ 5 ∧ ∀ k ∈ ks, k.size ≤ 4 := by
  have hs : ∀ k ∈ ks, isSignal k = true := fun k hx => h.T k ((hk.2 k).1 hx)
  exact ⟨len_subset ks [sEXIT, sHUP, sINT, sTERM, sUSR1] (KeysOf.distinct hk) (fun x hx => signal_mem (hs x hx)), fun k hx => signal_size (hs k hx)⟩
theorem GoodP.vok {s : Pst} (h : GoodP s) : VOk s := fun k hk => by
  have := h.V k hk
  exact ⟨by omega, by omega⟩
theorem good0 : GoodN 0 n0 where
  s := ⟨am1o, fun k h => (by cases h), fun k h => (by cases h), fun k h => (by cases h), by decide⟩
  hist := fun s h => (by cases h)
  ms := by decide
  N := by decide
theorem fit_of {K : Ctx} {n : Now} {o : Opr} {w : World} {R : Hp} {c : Nat} (h : GoodN c n) (hc : c ≤ 900000) (hK : K.nest = 20) (hf : FewO o) (ha : I64 o.ask) (hn : I64 o.n) (hp : StrsAt w o.p o.L) (hg : Glob R) : Fit K n o w R := by
  have h1 := h.N
  have h2 := h.ms
  have h3 := h.s.l
  obtain ⟨f1, f2, f3, f4⟩ := hf
  exact ⟨ha, hn, by omega, f2, f3, hp, by omega, by omega, by rw [hK]; omega, h.s.o, fun ks hk => ⟨by have := (keysT_le h.s hk).1; omega, fun k hx => by have := (keysT_le h.s hk).2 k hx; omega⟩, by omega, hg⟩
theorem put_s (most : Int) (n : Now) (s2 : Pst) : (n.put most s2).2.s = s2 ∨ (n.put most s2).2.s = n.s := by
  show (if tE most n.hist n.ms = 0 then s2 else n.s) = s2 ∨ (if tE most n.hist n.ms = 0 then s2 else n.s) = n.s
  by_cases c : tE most n.hist n.ms = 0
  · rw [if_pos c]; exact .inl rfl
  · rw [if_neg c]; exact .inr rfl
theorem put_good {c : Nat} {n : Now} {s2 : Pst} (most : Int) (h : GoodN c n) (h2 : GoodP s2) : GoodN (c + 20) (n.put most s2).2 where
  s := by
    rcases put_s most n s2 with e | e
    · rw [e]; exact h2
    · rw [e]; exact h.s
  hist := by
    show ∀ s ∈ tH most n.hist n.ms n.s, GoodP s
    unfold tH
    by_cases c1 : n.ms = []
    · rw [if_pos c1]; exact h.hist
    · rw [if_neg c1]
      by_cases c2 : (n.hist.length : Int) < most
      · rw [if_pos c2]
        intro s hs
        rcases List.mem_append.1 hs with hs | hs
        · exact h.hist s hs
        · rw [List.mem_singleton] at hs; subst hs; exact h.s
      · rw [if_neg c2]; exact h.hist
  ms := h.ms
  N := by
    show n.N + 2 ≤ c + 20
    have := h.N
    omega
theorem putM_at {α : Type} {M : ByteArray → Option α} {k x : ByteArray} {v : α} : putM M k v x = if x = k then some v else M x := rfl
theorem delM_at {α : Type} {M : ByteArray → Option α} {k x : ByteArray} : delM M k x = if x = k then none else M x := rfl
theorem goodP_putV {s : Pst} (h : GoodP s) {k : ByteArray} {v : VM.T} (hk : k.size ≤ 5000) (hv : v.val.size ≤ 5000) : GoodP { s with V := putM s.V k v } where
  o := h.o
  V := fun x hx => by
    have e : (Pst.var { s with V := putM s.V k v } x) = (putM s.V k v x).getD VM.zt := rfl
    rw [e]
    change (putM s.V k v x).isSome = true at hx
    rw [putM_at] at hx ⊢
    by_cases c : x = k
    · rw [if_pos c]; exact ⟨by rw [c]; exact hk, hv⟩
    · rw [if_neg c] at hx ⊢; exact h.V x hx
  A := h.A
  T := h.T
  l := h.l
theorem goodP_delV {s : Pst} (h : GoodP s) {k : ByteArray} : GoodP { s with V := delM s.V k } where
  o := h.o
  V := fun x hx => by
    have e : (Pst.var { s with V := delM s.V k } x) = (delM s.V k x).getD VM.zt := rfl
    rw [e]
    change (delM s.V k x).isSome = true at hx
    rw [delM_at] at hx ⊢
    by_cases c : x = k
    · rw [if_pos c] at hx; cases hx
    · rw [if_neg c] at hx ⊢; exact h.V x hx
  A := h.A
  T := h.T
  l := h.l
theorem goodP_T {s : Pst} (h : GoodP s) {T2 : ByteArray → Option ByteArray} (hT : ∀ k, (T2 k).isSome = true → isSignal k = true) : GoodP { s with T := T2 } := ⟨h.o, h.V, h.A, hT, h.l⟩
theorem goodP_A {s : Pst} (h : GoodP s) {A2 : ByteArray → Option ByteArray} (hA : ∀ k, (A2 k).isSome = true → k.size ≤ 5000) : GoodP { s with A := A2 } := ⟨h.o, h.V, hA, h.T, h.l⟩
theorem goodP_delT {s : Pst} (h : GoodP s) {k : ByteArray} : GoodP { s with T := delM s.T k } := goodP_T h fun x hx => by
  rw [delM_at] at hx
  by_cases c : x = k
  · rw [if_pos c] at hx; cases hx
  · rw [if_neg c] at hx; exact h.T x hx
theorem var_small {s : Pst} (h : GoodP s) (k : ByteArray) : (s.var k).val.size ≤ 5000 := by
  cases hv : s.V k with
  | none => unfold Pst.var; rw [hv]; decide
  | some x => exact (h.V k (by rw [hv]; rfl)).2
theorem delT_good {c : Nat} {n : Now} (most : Int) (k : ByteArray) (h : GoodN c n) : GoodN (c + 2) (n.delT most k).2 ∧ (n.delT most k).2.s.V = n.s.V := by
  unfold Now.delT
  by_cases c1 : (n.s.T k).isSome = false
  · rw [if_pos c1]; exact ⟨h.le (by omega), rfl⟩
  · rw [if_neg c1]
    have hg := put_good most h (goodP_delT h.s (k := k))
    refine ⟨⟨hg.s, hg.hist, hg.ms, ?_⟩, ?_⟩
    · show n.N + 2 ≤ c + 2
      have := h.N
      omega
    · rcases put_s most n { n.s with T := delM n.s.T k } with e | e <;> rw [e]
theorem enterL_good (most : Int) : ∀ (ks : List ByteArray) (n : Now) (c : Nat), GoodN c n → GoodN (c + 2 * ks.length) (Now.enterL most ks n).2 ∧ (Now.enterL most ks n).2.s.V = n.s.V
  | [], n, c, h => ⟨h, rfl⟩
  | k :: ks, n, c, h => by
    rw [enterL_cons]
    have hl : c + 2 * (k :: ks).length = (c + 2) + 2 * ks.length := by rw [List.length_cons]; omega
    rw [hl]
    by_cases hz : ((n.s.T k).getD ⟨#[]⟩).size = 0
    · rw [if_pos hz]
      exact enterL_good most ks n (c + 2) (h.le (by omega))
    · rw [if_neg hz]
      obtain ⟨h1, h2⟩ := delT_good most k h
      by_cases h3 : (n.delT most k).1 = 0
      · rw [if_pos h3]
        have := enterL_good most ks _ _ h1
        exact ⟨this.1, this.2.trans h2⟩
      · rw [if_neg h3]
        exact ⟨h1.le (by omega), h2⟩
theorem undo_good {c : Nat} {n : Now} (h : GoodN c n) : GoodN c n.undoM.2 := by
  unfold Now.undoM
  cases hr : n.ms.reverse with
  | nil => exact h
  | cons m l =>
    refine ⟨?_, fun s hs => h.hist s (List.mem_of_mem_take hs), ?_, h.N⟩
    · show GoodP ((n.hist ++ [n.s]).getD m n.s)
      rw [List.getD_eq_getElem?_getD]
      cases hg : (n.hist ++ [n.s])[m]? with
      | none => exact h.s
      | some y =>
        have hy := List.mem_of_getElem? hg
        rcases List.mem_append.1 hy with hy | hy
        · exact h.hist y hy
        · rw [List.mem_singleton] at hy; subst hy; exact h.s
    · show l.reverse.length ≤ 20
      have h1 := congrArg List.length hr
      rw [List.length_reverse, List.length_cons] at h1
      rw [List.length_reverse]
      have := h.ms
      omega
theorem does_good {K : Ctx} {n m : Now} {o : Opr} {en : Int} {c : Nat} (h : GoodN c n) (hK : K.nest = 20) (hf : FewO o) (hd : DoR K n o en m) : GoodN (c + 20) m := by
  have hle : GoodN (c + 20) n := h.le (by omega)
  have hs := h.s
  obtain ⟨f1, f2, f3, f4⟩ := hf
  have key : ∀ {r : Int × Now}, (en, m) = r → GoodN (c + 20) r.2 → GoodN (c + 20) m := fun e h => by rw [← e] at h; exact h
  cases hd with
  | c0 ha hd =>
    refine key hd ?_
    unfold Now.setP
    split
    · exact hle
    split
    · exact hle
    split
    · exact hle
    exact put_good _ h (goodP_putV hs (by omega) (by show o.t.size ≤ 5000; omega))
  | c1 ha hd =>
    refine key hd ?_
    unfold Now.unsetP Now.delV
    split
    · exact hle
    split
    · exact hle
    split
    · exact hle
    exact put_good _ h (goodP_delV hs)
  | c2 ha hd =>
    refine key hd ?_
    unfold Now.markP
    dsimp only
    split
    · exact hle
    split
    · exact hle
    exact put_good _ h (goodP_putV hs (by omega) (var_small hs _))
  | c3 ha hd =>
    refine key hd ?_
    unfold Now.setF
    split
    · exact hle
    exact put_good _ h ⟨hs.o, hs.V, hs.A, hs.T, hs.l⟩
  | c4 ha hd =>
    refine key hd ?_
    unfold Now.unsetF
    split
    · exact hle
    split
    · exact hle
    exact put_good _ h ⟨hs.o, hs.V, hs.A, hs.T, hs.l⟩
  | c5 ha hd =>
    refine key hd ?_
    unfold Now.setA
    split
    · exact hle
    split
    · exact hle
    refine put_good _ h (goodP_A hs fun x hx => ?_)
    rw [putM_at] at hx
    by_cases c : x = o.k
    · rw [c]; omega
    · rw [if_neg c] at hx; exact hs.A x hx
  | c6 ha hd =>
    refine key hd ?_
    unfold Now.unA
    split
    · exact hle
    refine put_good _ h (goodP_A hs fun x hx => ?_)
    rw [delM_at] at hx
    by_cases c : x = o.k
    · rw [if_pos c] at hx; cases hx
    · rw [if_neg c] at hx; exact hs.A x hx
  | c7 ha hd =>
    refine key hd ?_
    unfold Now.setT
    by_cases hsg : isSignal o.k = false
    · rw [if_pos hsg]; exact hle
    rw [if_neg hsg]
    split
    · exact hle
    refine put_good _ h (goodP_T hs fun x hx => ?_)
    rw [putM_at] at hx
    by_cases c : x = o.k
    · rw [c]; simpa using hsg
    · rw [if_neg c] at hx; exact hs.T x hx
  | c8 ha hd =>
    refine key hd ?_
    unfold Now.unT
    split
    · exact hle
    exact (delT_good _ _ h).1.le (by omega)
  | c9 ha hd =>
    obtain ⟨ks, hk, hd⟩ := hd
    refine key hd ?_
    have := (keysT_le hs hk).1
    exact (enterL_good _ ks n c h).1.le (by omega)
  | c10 ha hd =>
    refine key hd ?_
    unfold Now.setO
    split
    · exact put_good _ h ⟨optS_ok _ _ _, hs.V, hs.A, hs.T, hs.l⟩
    · exact hle
  | c11 ha hd =>
    refine key hd ?_
    unfold Now.setO
    split
    · exact put_good _ h ⟨optS_ok _ _ _, hs.V, hs.A, hs.T, hs.l⟩
    · exact hle
  | c12 ha hd =>
    refine key hd ?_
    unfold Now.setG
    split
    · exact hle
    split
    · exact hle
    exact put_good _ h ⟨hs.o, hs.V, hs.A, hs.T, f3⟩
  | c13 ha hd =>
    refine key hd ?_
    unfold Now.shiftP
    split
    · exact hle
    refine put_good _ h ⟨hs.o, hs.V, hs.A, hs.T, ?_⟩
    show (n.s.l.drop o.n.toNat).length ≤ 1100
    have := hs.l
    rw [List.length_drop]
    omega
  | c14 ha hd =>
    refine key hd ?_
    unfold Now.setC
    split
    · exact hle
    exact put_good _ h ⟨hs.o, hs.V, hs.A, hs.T, hs.l⟩
  | c15 ha hd =>
    refine key hd ?_
    exact ⟨hs, hle.hist, hle.ms, hle.N⟩
  | c16 ha hd =>
    refine key hd ?_
    unfold Now.markM
    split
    · exact hle
    · rename_i hne
      refine ⟨hs, hle.hist, ?_, hle.N⟩
      show (n.ms ++ [n.hist.length]).length ≤ 20
      have := h.ms
      rw [hK] at hne
      rw [List.length_append, List.length_singleton]
      omega
  | c17 ha hd =>
    refine key hd ?_
    unfold Now.markM
    split
    · exact hle
    · rename_i hne
      refine ⟨hs, hle.hist, ?_, hle.N⟩
      show (n.ms ++ [n.hist.length]).length ≤ 20
      have := h.ms
      rw [hK] at hne
      rw [List.length_append, List.length_singleton]
      omega
  | c18 ha hd => exact key hd ((undo_good h).le (by omega))
  | c19 ha hd => exact key hd ((undo_good h).le (by omega))
theorem delT_V (most : Int) (n : Now) (k : ByteArray) : (n.delT most k).2.s.V = n.s.V := by
  unfold Now.delT
  split
  · rfl
  · rcases put_s most n { n.s with T := delM n.s.T k } with e | e <;> rw [e]
theorem enterL_V (most : Int) : ∀ (ks : List ByteArray) (n : Now), (Now.enterL most ks n).2.s.V = n.s.V
  | [], n => rfl
  | k :: ks, n => by
    rw [enterL_cons]
    split
    · exact enterL_V most ks n
    split
    · rw [enterL_V most ks _]; exact delT_V most n k
    · exact delT_V most n k
/-- A name is fixed at a value. -/
def FixAt (k v : ByteArray) (s : Pst) : Prop := (s.var k).val = v ∧ (s.var k).set = true ∧ (s.var k).fix = true
theorem FixAt.put {k v : ByteArray} {n : Now} {s2 : Pst} (most : Int) (h : FixAt k v n.s) (h2 : FixAt k v s2) : FixAt k v (n.put most s2).2.s := by
  rcases put_s most n s2 with e | e
  · rw [e]; exact h2
  · rw [e]; exact h
theorem FixAt.of_V {k v : ByteArray} {s s2 : Pst} (h : FixAt k v s) (e : s2.V k = s.V k) : FixAt k v s2 := by
  have : s2.var k = s.var k := by unfold Pst.var; rw [e]
  unfold FixAt
  rw [this]
  exact h
theorem does_fix {K : Ctx} {n m : Now} {o : Opr} {en : Int} {k v : ByteArray} (h : FixAt k v n.s) (hk : isName k = true) (hd : DoR K n o en m) (ha : askI o < 18) :
    FixAt k v m.s ∧ (askI o ≤ 1 → o.k = k → en = 26 ∨ en = 21) := by
  have key : ∀ {r : Int × Now}, (en, m) = r → (FixAt k v r.2.s ∧ (askI o ≤ 1 → o.k = k → r.1 = 26 ∨ r.1 = 21)) → (FixAt k v m.s ∧ (askI o ≤ 1 → o.k = k → en = 26 ∨ en = 21)) := fun e h => by rw [← e] at h; exact h
  have hput : ∀ (s2 : Pst), s2.V = n.s.V → FixAt k v (n.put K.most s2).2.s := fun s2 e => h.put _ (h.of_V (by rw [e]))
  cases hd with
  | c0 ha hd =>
    refine key hd ?_
    unfold Now.setP
    by_cases hn : isName o.k = false
    · rw [if_pos hn]; exact ⟨h, fun _ e => by rw [e, hk] at hn; cases hn⟩
    rw [if_neg hn]
    by_cases hb : 4096 < o.t.size
    · rw [if_pos hb]; exact ⟨h, fun _ _ => .inr rfl⟩
    rw [if_neg hb]
    by_cases hx : (n.s.var o.k).fix = true
    · rw [if_pos hx]; exact ⟨h, fun _ _ => .inl rfl⟩
    rw [if_neg hx]
    have hne : o.k ≠ k := fun e => by rw [e] at hx; exact hx h.2.2
    exact ⟨h.put _ (h.of_V (by show putM n.s.V o.k _ k = _; rw [putM_at, if_neg (fun e => hne e.symm)])), fun _ e => absurd e hne⟩
  | c1 ha hd =>
    refine key hd ?_
    unfold Now.unsetP
    by_cases hn : isName o.k = false
    · rw [if_pos hn]; exact ⟨h, fun _ e => by rw [e, hk] at hn; cases hn⟩
    rw [if_neg hn]
    by_cases hx : (n.s.var o.k).fix = true
    · rw [if_pos hx]; exact ⟨h, fun _ _ => .inl rfl⟩
    rw [if_neg hx]
    have hne : o.k ≠ k := fun e => by rw [e] at hx; exact hx h.2.2
    refine ⟨?_, fun _ e => absurd e hne⟩
    unfold Now.delV
    split
    · exact h
    exact h.put _ (h.of_V (by show delM n.s.V o.k k = _; rw [delM_at, if_neg (fun e => hne e.symm)]))
  | c2 ha hd =>
    refine key hd ⟨?_, fun e => by omega⟩
    unfold Now.markP
    dsimp only
    split
    · exact h
    split
    · exact h
    refine h.put _ ?_
    by_cases e : k = o.k
    · have e2 : Pst.var { n.s with V := putM n.s.V o.k ⟨(n.s.var o.k).val, (n.s.var o.k).set, (n.s.var o.k).exp || exB o, (n.s.var o.k).fix || fxB o⟩ } k = ⟨(n.s.var o.k).val, (n.s.var o.k).set, (n.s.var o.k).exp || exB o, (n.s.var o.k).fix || fxB o⟩ := by
        show (putM n.s.V o.k _ k).getD VM.zt = _
        rw [putM_at, if_pos e]
        rfl
      unfold FixAt
      rw [e2, ← e]
      exact ⟨h.1, h.2.1, by show ((n.s.var k).fix || fxB o) = true; rw [h.2.2]; rfl⟩
    · exact h.of_V (by show putM n.s.V o.k _ k = _; rw [putM_at, if_neg e])
  | c3 ha hd =>
    refine key hd ⟨?_, fun e => by omega⟩
    unfold Now.setF
    split
    · exact h
    exact hput _ rfl
  | c4 ha hd =>
    refine key hd ⟨?_, fun e => by omega⟩
    unfold Now.unsetF
    split
    · exact h
    split
    · exact h
    exact hput _ rfl
  | c5 ha hd =>
    refine key hd ⟨?_, fun e => by omega⟩
    unfold Now.setA
    split
    · exact h
    split
    · exact h
    exact hput _ rfl
  | c6 ha hd =>
    refine key hd ⟨?_, fun e => by omega⟩
    unfold Now.unA
    split
    · exact h
    exact hput _ rfl
  | c7 ha hd =>
    refine key hd ⟨?_, fun e => by omega⟩
    unfold Now.setT
    split
    · exact h
    split
    · exact h
    exact hput _ rfl
  | c8 ha hd =>
    refine key hd ⟨?_, fun e => by omega⟩
    unfold Now.unT Now.delT
    split
    · exact h
    split
    · exact h
    exact hput _ rfl
  | c9 ha hd =>
    obtain ⟨ks, hks, hd⟩ := hd
    refine key hd ⟨?_, fun e => by omega⟩
    exact h.of_V (by rw [enterL_V K.most ks n])
  | c10 ha hd =>
    refine key hd ⟨?_, fun e => by omega⟩
    unfold Now.setO
    split
    · exact hput _ rfl
    · exact h
  | c11 ha hd =>
    refine key hd ⟨?_, fun e => by omega⟩
    unfold Now.setO
    split
    · exact hput _ rfl
    · exact h
  | c12 ha hd =>
    refine key hd ⟨?_, fun e => by omega⟩
    unfold Now.setG
    split
    · exact h
    split
    · exact h
    exact hput _ rfl
  | c13 ha hd =>
    refine key hd ⟨?_, fun e => by omega⟩
    unfold Now.shiftP
    split
    · exact h
    exact hput _ rfl
  | c14 ha hd =>
    refine key hd ⟨?_, fun e => by omega⟩
    unfold Now.setC
    split
    · exact h
    exact hput _ rfl
  | c15 ha hd => exact key hd ⟨h, fun e => by omega⟩
  | c16 ha hd =>
    refine key hd ⟨?_, fun e => by omega⟩
    unfold Now.markM
    split
    · exact h
    · exact h
  | c17 ha hd =>
    refine key hd ⟨?_, fun e => by omega⟩
    unfold Now.markM
    split
    · exact h
    · exact h
  | c18 h1 hd => omega
  | c19 h1 hd => omega
end Go.Proofs.YtlmjidandjemjaaGreatDoor.State
