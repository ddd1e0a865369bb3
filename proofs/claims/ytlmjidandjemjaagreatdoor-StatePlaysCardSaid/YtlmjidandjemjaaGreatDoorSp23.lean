/- HandlesPlays, part 23 of 29: the texts StGd StNi StNj StNk StBe StTo StTp SvM, joined by a program. -/
import Derived.Test.YtlmjidandjemjaaGreatDoorSp22
import Derived.Test.YtlmjidandjemjaaGreatDoorSp15
import Derived.Laws.Concat
namespace Go.Proofs.YtlmjidandjemjaaGreatDoor.State
open Go.RowKit Go.Proofs.YtlmjidandjemjaaGreatDoor Go.Proofs.YtlmjidandjemjaaGreatDoor.Hp Go.Proofs.YtlmjidandjemjaaGreatDoor.Undo
set_option linter.unusedVariables false

theorem len_subset : ∀ (l L : List ByteArray), l.Pairwise (· ≠ ·) → (∀ x ∈ l, x ∈ L) → l.length ≤ L.length
  | [], L, _, _ => Nat.zero_le _
  | a :: t, L, hp, hs => by
    have hp' := List.pairwise_cons.1 hp
    have ha : a ∈ L := hs a List.mem_cons_self
    have h1 := len_subset t (L.filter fun x => decide (x ≠ a)) hp'.2 (fun x hx => List.mem_filter.2 ⟨hs x (List.mem_cons_of_mem _ hx), decide_eq_true (fun e => hp'.1 x hx e.symm)⟩)
    have h2 : (L.filter fun x => decide (x ≠ a)).length < L.length := List.length_filter_lt_length_iff_exists.2 ⟨a, ha, by simp⟩
    rw [List.length_cons]
    omega
theorem KeysOf.distinct {α : Type} {M : ByteArray → Option α} {ks : List ByteArray} (h : KeysOf M ks) : ks.Pairwise (· ≠ ·) :=
  h.1.imp fun {a b} hab e => by subst e; exact absurd hab (List.lt_irrefl _)
theorem signal_mem {k : ByteArray} (h : isSignal k = true) : k ∈ [sEXIT, sHUP, sINT, sTERM, sUSR1] := by
  unfold isSignal at h
  simp only [Bool.or_eq_true, decide_eq_true_eq] at h
  simp only [List.mem_cons, List.not_mem_nil, or_false]
  rcases h with (((h | h) | h) | h) | h
  · exact .inl h
  · exact .inr (.inl h)
  · exact .inr (.inr (.inl h))
  · exact .inr (.inr (.inr (.inl h)))
  · exact .inr (.inr (.inr (.inr h)))
theorem signal_size {k : ByteArray} (h : isSignal k = true) : k.size ≤ 4 := by
  have := signal_mem h
  simp only [List.mem_cons, List.not_mem_nil, or_false] at this
  rcases this with rfl | rfl | rfl | rfl | rfl <;> decide
/-- What is known is not too great. -/
structure GoodP (s : Pst) : Prop where
  o : OOk s.o
  V : ∀ k, (s.V k).isSome = true → k.size ≤ 5000 ∧ (s.var k).val.size ≤ 5000
  A : ∀ k, (s.A k).isSome = true → k.size ≤ 5000
  T : ∀ k, (s.T k).isSome = true → isSignal k = true
  l : s.l.length ≤ 1100
structure GoodN (c : Nat) (n : Now) : Prop where
  s : GoodP n.s
  hist : ∀ s ∈ n.hist, GoodP s
  ms : n.ms.length ≤ 20
  N : n.N ≤ c
theorem GoodN.le {c d : Nat} {n : Now} (h : GoodN c n) (hc : c ≤ d) : GoodN d n := ⟨h.s, h.hist, h.ms, Nat.le_trans h.N hc⟩
theorem keysT_le {s : Pst} (h : GoodP s) {ks : List ByteArray} (hk : KeysOf s.T ks) : ks.length ≤ 5 ∧ ∀ k ∈ ks, k.size ≤ 4 := by
  have hs : ∀ k ∈ ks, isSignal k = true := fun k hx => h.T k ((hk.2 k).1 hx)
  exact ⟨len_subset ks [sEXIT, sHUP, sINT, sTERM, sUSR1] (KeysOf.distinct hk) (fun x hx => signal_mem (hs x hx)), fun k hx => signal_size (hs k hx)⟩
theorem GoodP.vok {s : Pst} (h : GoodP s) : VOk s := fun k hk => by
  have := h.V k hk
  exact ⟨by omega, by omega⟩
theorem good0 : GoodN 0 n0 where
  s := ⟨am1o, fun k h => (by cases h), fun k h => (by cases h), fun k h => (by cases h), by decide⟩
  hist := fun s h => (by cases h)
  ms := by decide
  N := by decide
theorem fit_of {K : Ctx} {n : Now} {o : Opr} {w : World} {R : Hp} {c : Nat} (h : GoodN c n) (hc : c ≤ 900000) (hK : K.nest = 20) (hf : FewO o) (ha : I64 o.ask) (hn : I64 o.n) (hp : StrsAt w o.p o.L) (hg : Glob R) : Fit K n o w R := by
  have h1 := h.N
  have h2 := h.ms
  have h3 := h.s.l
  obtain ⟨f1, f2, f3, f4⟩ := hf
  exact ⟨ha, hn, by omega, f2, f3, hp, by omega, by omega, by rw [hK]; omega, h.s.o, fun ks hk => ⟨by have := (keysT_le h.s hk).1; omega, fun k hx => by have := (keysT_le h.s hk).2 k hx; omega⟩, by omega, hg⟩
theorem put_s (most : Int) (n : Now) (s2 : Pst) : (n.put most s2).2.s = s2 ∨ (n.put most s2).2.s = n.s := by
  show (if tE most n.hist n.ms = 0 then s2 else n.s) = s2 ∨ (if tE most n.hist n.ms = 0 then s2 else n.s) = n.s
  by_cases c : tE most n.hist n.ms = 0
  · rw [if_pos c]; exact .inl rfl
  · rw [if_neg c]; exact .inr rfl
theorem put_good {c : Nat} {n : Now} {s2 : Pst} (most : Int) (h : GoodN c n) (h2 : GoodP s2) : GoodN (c + 20) (n.put most s2).2 where
  s := by
    rcases put_s most n s2 with e | e
    · rw [e]; exact h2
    · rw [e]; exact h.s
  hist := by
    show ∀ s ∈ tH most n.hist n.ms n.s, GoodP s
    unfold tH
    by_cases c1 : n.ms = []
    · rw [if_pos c1]; exact h.hist
    · rw [if_neg c1]
      by_cases c2 : (n.hist.length : Int) < most
      · rw [if_pos c2]
        intro s hs
        rcases List.mem_append.1 hs with hs | hs
        · exact h.hist s hs
        · rw [List.mem_singleton] at hs; subst hs; exact h.s
      · rw [if_neg c2]; exact h.hist
  ms := h.ms
  N := by
    show n.N + 2 ≤ c + 20
    have := h.N
    omega
theorem putM_at {α : Type} {M : ByteArray → Option α} {k x : ByteArray} {v : α} : putM M k v x = if x = k then some v else M x := rfl
theorem delM_at {α : Type} {M : ByteArray → Option α} {k x : ByteArray} : delM M k x = if x = k then none else M x := rfl
theorem goodP_putV {s : Pst} (h : GoodP s) {k : ByteArray} {v : VM.T} (hk : k.size ≤ 5000) (hv : v.val.size ≤ 5000) : GoodP { s with V := putM s.V k v } where
  o := h.o
  V := fun x hx => by
    have e : (Pst.var { s with V := putM s.V k v } x) = (putM s.V k v x).getD VM.zt := rfl
    rw [e]
    change (putM s.V k v x).isSome = true at hx
    rw [putM_at] at hx ⊢
    by_cases c : x = k
    · rw [if_pos c]; exact ⟨by rw [c]; exact hk, hv⟩
    · rw [if_neg c] at hx ⊢; exact h.V x hx
  A := h.A
  T := h.T
  l := h.l
theorem goodP_delV {s : Pst} (h : GoodP s) {k : ByteArray} : GoodP { s with V := delM s.V k } where
  o := h.o
  V := fun x hx => by
    have e : (Pst.var { s with V := delM s.V k } x) = (delM s.V k x).getD VM.zt := rfl
    rw [e]
    change (delM s.V k x).isSome = true at hx
    rw [delM_at] at hx ⊢
    by_cases c : x = k
    · rw [if_pos c] at hx; cases hx
    · rw [if_neg c] at hx ⊢; exact h.V x hx
  A := h.A
  T := h.T
  l := h.l
theorem goodP_T {s : Pst} (h : GoodP s) {T2 : ByteArray → Option ByteArray} (hT : ∀ k, (T2 k).isSome = true → isSignal k = true) : GoodP { s with T := T2 } := ⟨h.o, h.V, h.A, hT, h.l⟩
theorem goodP_A {s : Pst} (h : GoodP s) {A2 : ByteArray → Option ByteArray} (hA : ∀ k, (A2 k).isSome = true → k.size ≤ 5000) : GoodP { s with A := A2 } := ⟨h.o, h.V, hA, h.T, h.l⟩
theorem goodP_delT {s : Pst} (h : GoodP s) {k : ByteArray} : GoodP { s with T := delM s.T k } := goodP_T h fun x hx => by
  rw [delM_at] at hx
  by_cases c : x = k
  · rw [if_pos c] at hx; cases hx
  · rw [if_neg c] at hx; exact h.T x hx
theorem var_small {s : Pst} (h : GoodP s) (k : ByteArray) : (s.var k).val.size ≤ 5000 := by
  cases hv : s.V k with
  | none => unfold Pst.var; rw [hv]; decide
  | some x => exact (h.V k (by rw [hv]; rfl)).2
theorem delT_good {c : Nat} {n : Now} (most : Int) (k : ByteArray) (h : GoodN c n) : GoodN (c + 2) (n.delT most k).2 ∧ (n.delT most k).2.s.V = n.s.V := by
  unfold Now.delT
  by_cases c1 : (n.s.T k).isSome = false
  · rw [if_pos c1]; exact ⟨h.le (by omega), rfl⟩
  · rw [if_neg c1]
    have hg := put_good most h (goodP_delT h.s (k := k))
    refine ⟨⟨hg.s, hg.hist, hg.ms, ?_⟩, ?_⟩
    · show n.N + 2 ≤ c + 2
      have := h.N
      omega
    · rcases put_s most n { n.s with T := delM n.s.T k } with e | e <;> rw [e]
theorem enterL_good (most : Int) : ∀ (ks : List ByteArray) (n : Now) (c : Nat), GoodN c n → GoodN (c + 2 * ks.length) (Now.enterL most ks n).2 ∧ (Now.enterL most ks n).2.s.V = n.s.V
  | [], n, c, h => ⟨h, rfl⟩
  | k :: ks, n, c, h => by
    rw [enterL_cons]
    have hl : c + 2 * (k :: ks).length = (c + 2) + 2 * ks.length := by rw [List.length_cons]; omega
    rw [hl]
    by_cases hz : ((n.s.T k).getD ⟨#[]⟩).size = 0
    · rw [if_pos hz]
      exact enterL_good most ks n (c + 2) (h.le (by omega))
    · rw [if_neg hz]
      obtain ⟨h1, h2⟩ := delT_good most k h
      by_cases h3 : (n.delT most k).1 = 0
      · rw [if_pos h3]
        have := enterL_good most ks _ _ h1
        exact ⟨this.1, this.2.trans h2⟩
      · rw [if_neg h3]
        exact ⟨h1.le (by omega), h2⟩
theorem undo_good {c : Nat} {n : Now} (h : GoodN c n) : GoodN c n.undoM.2 := by
  unfold Now.undoM
  cases hr : n.ms.reverse with
  | nil => exact h
  | cons m l =>
    refine ⟨?_, fun s hs => h.hist s (List.mem_of_mem_take hs), ?_, h.N⟩
    · show GoodP ((n.hist ++ [n.s]).getD m n.s)
      rw [List.getD_eq_getElem?_getD]
      cases hg : (n.hist ++ [n.s])[m]? with
      | none => exact h.s
      | some y =>
        have hy := List.mem_of_getElem? hg
        rcases List.mem_append.1 hy with hy | hy
        · exact h.hist y hy
        · rw [List.mem_singleton] at hy; subst hy; exact h.s
    · show l.reverse.length ≤ 20
      have h1 := congrArg List.length hr
      rw [List.length_reverse, List.length_cons] at h1
      rw [List.length_reverse]
      have := h.ms
      omega
theorem does_good {K : Ctx} {n m : Now} {o : Opr} {en : Int} {c : Nat} (h : GoodN c n) (hK : K.nest = 20) (hf : FewO o) (hd : DoR K n o en m) : GoodN (c + 20) m := by
  have hle : GoodN (c + 20) n := h.le (by omega)
  have hs := h.s
  obtain ⟨f1, f2, f3, f4⟩ := hf
  have key : ∀ {r : Int × Now}, (en, m) = r → GoodN (c + 20) r.2 → GoodN (c + 20) m := fun e h => by rw [← e] at h; exact h
  cases hd with
  | c0 ha hd =>
    refine key hd ?_
    unfold Now.setP
    split
    · exact hle
    split
    · exact hle
    split
    · exact hle
    exact put_good _ h (goodP_putV hs (by omega) (by show o.t.size ≤ 5000; omega))
  | c1 ha hd =>
    refine key hd ?_
    unfold Now.unsetP Now.delV
    split
    · exact hle
    split
    · exact hle
    split
    · exact hle
    exact put_good _ h (goodP_delV hs)
  | c2 ha hd =>
    refine key hd ?_
    unfold Now.markP
    dsimp only
    split
    · exact hle
    split
    · exact hle
    exact put_good _ h (goodP_putV hs (by omega) (var_small hs _))
  | c3 ha hd =>
    refine key hd ?_
    unfold Now.setF
    split
    · exact hle
    exact put_good _ h ⟨hs.o, hs.V, hs.A, hs.T, hs.l⟩
  | c4 ha hd =>
    refine key hd ?_
    unfold Now.unsetF
    split
    · exact hle
    split
    · exact hle
    exact put_good _ h ⟨hs.o, hs.V, hs.A, hs.T, hs.l⟩
  | c5 ha hd =>
    refine key hd ?_
    unfold Now.setA
    split
    · exact hle
    split
    · exact hle
    refine put_good _ h (goodP_A hs fun x hx => ?_)
    rw [putM_at] at hx
    by_cases c : x = o.k
    · rw [c]; omega
    · rw [if_neg c] at hx; exact hs.A x hx
  | c6 ha hd =>
    refine key hd ?_
    unfold Now.unA
    split
    · exact hle
    refine put_good _ h (goodP_A hs fun x hx => ?_)
    rw [delM_at] at hx
    by_cases c : x = o.k
    · rw [if_pos c] at hx; cases hx
    · rw [if_neg c] at hx; exact hs.A x hx
  | c7 ha hd =>
    refine key hd ?_
    unfold Now.setT
    by_cases hsg : isSignal o.k = false
    · rw [if_pos hsg]; exact hle
    rw [if_neg hsg]
    split
    · exact hle
    refine put_good _ h (goodP_T hs fun x hx => ?_)
    rw [putM_at] at hx
    by_cases c : x = o.k
    · rw [c]; simpa using hsg
    · rw [if_neg c] at hx; exact hs.T x hx
  | c8 ha hd =>
    refine key hd ?_
    unfold Now.unT
    split
    · exact hle
    exact (delT_good _ _ h).1.le (by omega)
  | c9 ha hd =>
    obtain ⟨ks, hk, hd⟩ := hd
    refine key hd ?_
    have := (keysT_le hs hk).1
    exact (enterL_good _ ks n c h).1.le (by omega)
  | c10 ha hd =>
    refine key hd ?_
    unfold Now.setO
    split
    · exact put_good _ h ⟨optS_ok _ _ _, hs.V, hs.A, hs.T, hs.l⟩
    · exact hle
  | c11 ha hd =>
    refine key hd ?_
    unfold Now.setO
    split
    · exact put_good _ h ⟨optS_ok _ _ _, hs.V, hs.A, hs.T, hs.l⟩
    · exact hle
  | c12 ha hd =>
    refine key hd ?_
    unfold Now.setG
    split
    · exact hle
    split
    · exact hle
    exact put_good _ h ⟨hs.o, hs.V, hs.A, hs.T, f3⟩
  | c13 ha hd =>
    refine key hd ?_
    unfold Now.shiftP
    split
    · exact hle
    refine put_good _ h ⟨hs.o, hs.V, hs.A, hs.T, ?_⟩
    show (n.s.l.drop o.n.toNat).length ≤ 1100
    have := hs.l
    rw [List.length_drop]
    omega
  | c14 ha hd =>
    refine key hd ?_
    unfold Now.setC
    split
    · exact hle
    exact put_good _ h ⟨hs.o, hs.V, hs.A, hs.T, hs.l⟩
  | c15 ha hd =>
    refine key hd ?_
    exact ⟨hs, hle.hist, hle.ms, hle.N⟩
  | c16 ha hd =>
    refine key hd ?_
    unfold Now.markM
    split
    · exact hle
    · rename_i hne
      refine ⟨hs, hle.hist, ?_, hle.N⟩
      show (n.ms ++ [n.hist.length]).length ≤ 20
      have := h.ms
      rw [hK] at hne
      rw [List.length_append, List.length_singleton]
      omega
  | c17 ha hd =>
    refine key hd ?_
    unfold Now.markM
    split
    · exact hle
    · rename_i hne
      refine ⟨hs, hle.hist, ?_, hle.N⟩
      show (n.ms ++ [n.hist.length]).length ≤ 20
      have := h.ms
      rw [hK] at hne
      rw [List.length_append, List.length_singleton]
      omega
  | c18 ha hd => exact key hd ((undo_good h).le (by omega))
  | c19 ha hd => exact key hd ((undo_good h).le (by omega))
/-- A name is fixed at a value. -/
def FixAt (k v : ByteArray) (s : Pst) : Prop := (s.var k).val = v ∧ (s.var k).set = true ∧ (s.var k).fix = true
theorem FixAt.put {k v : ByteArray} {n : Now} {s2 : Pst} (most : Int) (h : FixAt k v n.s) (h2 : FixAt k v s2) : FixAt k v (n.put most s2).2.s := by
  rcases put_s most n s2 with e | e
  · rw [e]; exact h2
  · rw [e]; exact h
end Go.Proofs.YtlmjidandjemjaaGreatDoor.State

namespace Go.Proofs.YtlmjidandjemjaaGreatDoor.State
open Go.RowKit Go.Proofs.YtlmjidandjemjaaGreatDoor Go.Proofs.YtlmjidandjemjaaGreatDoor.Hp Go.Proofs.YtlmjidandjemjaaGreatDoor.Undo
set_option linter.unusedVariables false
attribute [local go_sem] Oper.semAt_some

end Go.Proofs.YtlmjidandjemjaaGreatDoor.State

namespace Go.Proofs.YtlmjidandjemjaaGreatDoor.State
open Go.RowKit Go.Proofs.YtlmjidandjemjaaGreatDoor Go.Proofs.YtlmjidandjemjaaGreatDoor.Hp Go.Proofs.YtlmjidandjemjaaGreatDoor.Undo
set_option linter.unusedVariables false
attribute [local go_sem] Oper.semAt_some

end Go.Proofs.YtlmjidandjemjaaGreatDoor.State

namespace Go.Proofs.YtlmjidandjemjaaGreatDoor.State
open Go.RowKit Go.Proofs.YtlmjidandjemjaaGreatDoor Go.Proofs.YtlmjidandjemjaaGreatDoor.Hp Go.Proofs.YtlmjidandjemjaaGreatDoor.Undo
set_option linter.unusedVariables false
attribute [local go_sem] Oper.semAt_some

def NdRel (l : List Opr) (W w : World) (X : Hp) (g : Nat) (v3 v4 : Value) (wr : World) : Prop :=
  ∃ (i : Nat) (p : Option Addr) (c : Nat), v4 = .int .i64 (i : Int) ∧ i + g = l.length ∧ v3 = .slice p i c ∧ Sat wr (arr 9 1 p i c ((l.take i).map fun o => sv o.k) * (X * keep W)) ∧ Ran w wr
set_option maxRecDepth 100000 in
set_option maxHeartbeats 8000000 in
theorem nameds_calls (l : List Opr) (ao : Option Addr) (cap : Nat) (W w : World) (X : Hp) (hl : OpsAt W ao l) (h50 : l.length ≤ 100) (h : Sat w (X * keep W)) :
    Calls Tryz.prog 24 #[.slice ao l.length cap] w fun e w' => (∃ p c, e = .returned (.slice p l.length c) ∧ Sat w' (arr 9 1 p l.length c (l.map fun o => sv o.k) * (X * keep W))) ∧ Ran w w' := by
  have H0 := Lib.hid h
  have HL := Lib.hid hl
  clear h hl
  go_enter Tryz.func24, Tryz.ntmps24
  go_wp2_with fail
  go_loopg [3, 4] (l.length) (NdRel l W w X)
  case atStart => exact ⟨0, none, 0, rfl, by omega, rfl, H0.out.nil_arr _ _, Below.refl 0 w⟩
  case round =>
    obtain ⟨i, p, pc, rfl, hgk, rfl, HSi, HRi⟩ := hrel
    clear H0
    by_cases hlt : i < l.length
    · have hltI : (i : Int) < l.length := by omega
      have hi0 : (0 : Int) ≤ i := by omega
      obtain ⟨x, hx⟩ : ∃ x, x = l[i] := ⟨_, rfl⟩
      obtain ⟨okx, b, o, rfl, hb, e0, e1, e2, e3, e4⟩ := HL.out i hlt
      rw [← hx] at e1
      have htk : ((l.take (i + 1)).map fun o => sv o.k) = ((l.take i).map fun o => sv o.k) ++ [sv x.k] := by rw [hx, List.take_succ_eq_append_getElem hlt, List.map_append]; rfl
      have e1 := (World.cell?_of_block (w := W) (HSi.right.right.kept b hb)).trans e1
      have Htk := Lib.hid htk
      have HR0 := Lib.hid HRi
      have HSB := HSi.old (.cells #[.string x.k] 9 (0, 0))
      have hi9 : i ≤ 1000000000 := by omega
      clear okx hx htk HSi HRi e0 e2 e3 e4 hb
      go_wp2_with (at_builtin; go_loud (refine appStr rfl _ _ rfl p i pc _ rfl _ rfl HSB _ (blk_new rfl) rfl hi9 ?_; intro p' cap' w6 HS7 HR7; clear HSB))
      have HS8 := Lib.hid HS7
      have R8 := Lib.hid (Below.trans (Ran.new HR0.out _) HR7)
      clear HS7 HR7
      go_wp2_with fail
      go_roundg (gk - 1)
      case rel => exact ⟨i + 1, p', cap', by simp, by omega, rfl, by rw [Htk.out]; exact HS8.out, R8.out⟩
      case measure => omega
    · have hge : i = l.length := by omega
      subst hge
      rw [List.take_length] at HSi
      have HSi := Lib.hid HSi
      have HRi := Lib.hid HRi
      go_wp2_with fail
      go_ret
      exact ⟨⟨p, pc, rfl, HSi.out⟩, HRi.out⟩
end Go.Proofs.YtlmjidandjemjaaGreatDoor.State

namespace Go.Proofs.YtlmjidandjemjaaGreatDoor.State
open Go.RowKit Go.Proofs.YtlmjidandjemjaaGreatDoor Go.Proofs.YtlmjidandjemjaaGreatDoor.Hp Go.Proofs.YtlmjidandjemjaaGreatDoor.Undo
set_option linter.unusedVariables false

/-- Behind a mark that was opened at n0; rest: the marks behind it. -/
structure BehindN (n0 : Now) (rest : List Nat) (n : Now) : Prop where
  ms : n.ms = n0.ms ++ n0.hist.length :: rest
  hist : n.hist.take n0.hist.length = n0.hist
  s : (n.hist ++ [n.s])[n0.hist.length]? = some n0.s
theorem BehindN.le {n0 n : Now} {rest : List Nat} (h : BehindN n0 rest n) : n0.hist.length ≤ n.hist.length := by
  have := congrArg List.length h.hist
  rw [List.length_take] at this; omega
theorem BehindN.len {n0 n : Now} {rest : List Nat} (h : BehindN n0 rest n) : n.ms.length = n0.ms.length + 1 + rest.length := by rw [h.ms]; simp; omega
theorem SAt.marked {K : Ctx} {w : World} {n : Now} {R : Hp} (h : SAt K w n R) : Marked n.hist.length n.ms.reverse := by
  obtain ⟨hist, s, rws, h1, h2, h3, rs, B, g0, g1, g2, g3, HL⟩ := h
  rw [h1, List.length_map]
  first | exact g0 | exact g1 | exact g2
/-- The keys of a map are one list. -/
theorem keys_unique {α : Type} {M : ByteArray → Option α} {a b : List ByteArray} (ha : KeysOf M a) (hb : KeysOf M b) : a = b := by
  have go : ∀ (a b : List ByteArray), a.Pairwise (fun x y => bs x < bs y) → b.Pairwise (fun x y => bs x < bs y) → (∀ x, x ∈ a ↔ x ∈ b) → a = b := by
    intro a
    induction a with
    | nil =>
      intro b _ _ hm
      cases b with
      | nil => rfl
      | cons y b => exact absurd ((hm y).2 List.mem_cons_self) (by simp)
    | cons x a ih =>
      intro b h1 h2 hm
      cases b with
      | nil => exact absurd ((hm x).1 List.mem_cons_self) (by simp)
      | cons y b =>
        have h1' := List.pairwise_cons.1 h1
        have h2' := List.pairwise_cons.1 h2
        have hxy : x = y := by
          rcases List.mem_cons.1 ((hm x).1 List.mem_cons_self) with h | hx
          · exact h
          rcases List.mem_cons.1 ((hm y).2 List.mem_cons_self) with h | hy
          · exact h.symm
          exact absurd (List.lt_trans (h2'.1 x hx) (h1'.1 y hy)) (List.lt_irrefl _)
        subst hxy
        congr 1
        refine ih b h1'.2 h2'.2 fun z => ⟨fun hz => ?_, fun hz => ?_⟩
        · rcases List.mem_cons.1 ((hm z).1 (List.mem_cons_of_mem _ hz)) with h | h
          · subst h; exact absurd (h1'.1 z hz) (List.lt_irrefl _)
          · exact h
        · rcases List.mem_cons.1 ((hm z).2 (List.mem_cons_of_mem _ hz)) with h | h
          · subst h; exact absurd (h2'.1 z hz) (List.lt_irrefl _)
          · exact h
  exact go a b ha.1 hb.1 fun x => (ha.2 x).trans (hb.2 x).symm
end Go.Proofs.YtlmjidandjemjaaGreatDoor.State

namespace Go.Proofs.YtlmjidandjemjaaGreatDoor.State
open Go.RowKit Go.Proofs.YtlmjidandjemjaaGreatDoor Go.Proofs.YtlmjidandjemjaaGreatDoor.Hp Go.Proofs.YtlmjidandjemjaaGreatDoor.Undo
set_option linter.unusedVariables false
attribute [local go_sem] Oper.semAt_some

set_option maxRecDepth 100000 in
/-- Texts are appended. -/
theorem appRow {w : World} {H : Hp} {ops : Array Oper} {rest : List Oper} {o : Oper} {a : Act} {Q : Exit → Act → World → Prop} (hgd : o.guard = none) (s x : Operand)
    (ho : o.op = .call { callee := .builtin .append, args := #[s, x], argTypes := #[22, 22] })
    (p : Option Addr) (n cap : Nat) (xs : List Value) (hp : a.eval s = .slice p n cap) (q : Option Addr) (mc : Nat) (ys : List ByteArray) (m : Nat) (hm : ys.length = m) (hvx : a.eval x = .slice q m mc) (hy : StrsAt w q ys)
    (h : Sat w (arr 9 1 p n cap xs * H)) (hn : n + m ≤ 1000000000)
    (hk : ∀ p' cap' w', Sat w' (arr 9 1 p' (n + m) cap' (xs ++ ys.map sv) * H) → Ran w w' → wpList Tryz.prog ops Q rest (a.put o.dst (.slice p' (n + m) cap')) w') : wpList Tryz.prog ops Q (o :: rest) a w := by
  obtain ⟨i0, hi, hz0, hz1, hz2⟩ := info_parts infoStr
  have hsrc : Src Tryz.prog i0.size 22 (.slice q m mc) m (ys.map sv) w := by
    rcases hy with he | ⟨b, o, rfl, hc⟩
    · subst he
      have : m = 0 := hm.symm
      subst this
      cases q with
      | none => exact Src.ofNil _ Tryz.underlying22 mc
      | some a => exact Src.ofSlice w Tryz.underlying22 a 0 mc [] (by simp) (fun j u h => by simp at h) (fun u h => by simp at h)
    · refine Src.ofSlice w Tryz.underlying22 ⟨b, o, none⟩ m mc (ys.map sv) (by rw [hz1, List.length_map, hm, Nat.mul_one]) (fun j u hj => ?_) (fun u hu => ?_)
      · have hj2 : j < ys.length := by
          have := List.getElem?_eq_some_iff.1 hj
          obtain ⟨h1, _⟩ := this
          rw [List.length_map] at h1; exact h1
        rw [List.getElem?_map, List.getElem?_eq_getElem hj2] at hj
        injection hj with hj
        rw [← hj, Addr.add_lit]
        exact hc j hj2
      · obtain ⟨y, -, rfl⟩ := List.mem_map.1 hu
        rfl
  exact wpList_append_arr hgd s x _ _ ho 9 i0 _ 1 16 Tryz.underlying22 hi hz0 hz1 hz2 rfl p n cap xs hp h _ hvx m (ys.map sv) hsrc (by omega) (by unfold maxLen; omega) (fun p' cap' w' h1 h2 _ => hk p' cap' w' h1 h2)
def fl (b : Bool) (t : ByteArray) : List ByteArray := if b = true then [t] else []
end Go.Proofs.YtlmjidandjemjaaGreatDoor.State

namespace Go.Proofs.YtlmjidandjemjaaGreatDoor.State
open Go.RowKit Go.Proofs.YtlmjidandjemjaaGreatDoor Go.Proofs.YtlmjidandjemjaaGreatDoor.Hp Go.Proofs.YtlmjidandjemjaaGreatDoor.Undo
set_option linter.unusedVariables false
attribute [local go_sem] Oper.semAt_some

theorem SAt.swap {K : Ctx} {w : World} {n : Now} {A B R : Hp} (h : SAt K w n (A * (B * R))) : SAt K w n (B * (A * R)) := h.perm (by ac_rfl)
theorem StrsAt.addr {w : World} {p : Option Addr} {l : List ByteArray} (h : StrsAt w p l) {i : Nat} (hi : i < l.length) : ∃ b o, p = some ⟨b, o, none⟩ := by
  rcases h with he | ⟨b, o, hp, _⟩
  · rw [he] at hi; exact absurd hi (Nat.not_lt_zero _)
  · exact ⟨b, o, hp⟩
theorem StrsAt.at {w : World} {b o : Nat} {l : List ByteArray} (h : StrsAt w (some ⟨b, o, none⟩) l) {i : Nat} (hi : i < l.length) : w.cell? ⟨b, o + i, none⟩ = some (.string l[i]) := by
  rcases h with he | ⟨b', o', hp, hc⟩
  · subst he; exact absurd hi (Nat.not_lt_zero _)
  · injection hp with hp; injection hp with e1 e2; subst e1 e2; exact hc i hi
end Go.Proofs.YtlmjidandjemjaaGreatDoor.State

namespace Go.Proofs.YtlmjidandjemjaaGreatDoor.State
open Go.RowKit Go.Proofs.YtlmjidandjemjaaGreatDoor Go.Proofs.YtlmjidandjemjaaGreatDoor.Hp Go.Proofs.YtlmjidandjemjaaGreatDoor.Undo
set_option linter.unusedVariables false
attribute [local go_sem] Oper.semAt_some

theorem bsR_cat (x y : ByteArray) : bs (x ++ y) = bs x ++ bs y := by unfold bs; rw [ByteArray.data_append, Array.toList_append]
theorem bsR_one (s : ByteArray) (i : Nat) (h : i < s.size) : bs (s.extract i (i + 1)) = [s[i]] := by
  have h1 : bs (s.extract i (i + 1)) = ((bs s).drop i).take 1 := by
    unfold bs
    simp [List.extract_eq_take_drop]
  rw [h1, bs_drop s i h]
  rfl
theorem bsR_back (s : ByteArray) (l : List UInt8) (h : bs s = l) : s = ⟨l.toArray⟩ := by
  cases s with
  | mk d => unfold bs at h; subst h; rfl
set_option maxRecDepth 100000 in
set_option maxHeartbeats 4000000 in
theorem rseto_calls (b : Nat) (s : Sr) (p : Pst) (q : Int) (c : Nat) (A F : Hp) (o : UInt8) (on : Bool) (w : World) (ho : p.o.size ≤ 100000) (hc : c ≤ 80000) (hG : SrG A p q c s) (h : Sat w (pts b (srO s) * (A * F))) :
    Calls Tryz.prog 83 #[pp b, .int .u8 ((o.toNat : Nat) : Int), .bool on] w (OutS b A F w (dSetO p o on).1 (dSetO p o on).2 q (c + 1)) := by
  have HO := fun (c : UInt8) => roption_calls b s c w (A * F) (by rw [hG.is.o]; omega) h
  rw [hG.is.o] at HO
  have HO := Lib.hid HO
  obtain ⟨f, hf⟩ : ∃ f : UInt8 → Bool, f = fun x => if x = o then on else decide (x ∈ p.o.data.toList) := ⟨_, rfl⟩
  have HE1 := Lib.hid (OutS.same (en := 1) hG hc h (Below.refl 0 w))
  have HE0 := Lib.hid (fun t => OutS.of (w0 := w) (b := b) (F := F) (en := 0) (hG.setO hc t) (by rw [emp_sep]; exact h.set (i := 4) (.string t)) (Ran.set (Below.refl 0 w) ⟨b, 4, none⟩ (.string t)))
  have hD1 : o ∉ Now.optL → dSetO p o on = (1, p) := fun hn => by unfold dSetO; rw [if_neg hn]
  have hD0 : o ∈ Now.optL → dSetO p o on = (0, { p with o := ⟨(Now.optL.filter f).toArray⟩ }) := fun hn => by
    unfold dSetO
    rw [if_pos hn, hf]
    rfl
  have HD1 := Lib.hid hD1
  have HD0 := Lib.hid hD0
  obtain ⟨-, -, -, -, s4, -⟩ := sr_cells h
  have f4 := sr_free h 4
  have Hf := Lib.hid hf
  obtain ⟨D, hD⟩ : ∃ D, D = dSetO p o on := ⟨_, rfl⟩
  rw [← hD] at HD1 HD0 ⊢
  clear hG h hf hD1 hD0 hD
  go_enter Tryz.func83, Tryz.ntmps83
  go_upto_region 2 with fail
  obtain ⟨al, hal⟩ : ∃ al : ByteArray, al = ⟨#[67, 97, 101, 102, 117, 120]⟩ := ⟨_, rfl⟩
  rw [← hal]
  have hbs : bs al = Now.optL := by rw [hal]; rfl
  have h6 : al.size = 6 := by rw [hal]; rfl
  rw [← hbs] at HD0 HD1
  clear hal hbs
  have h6I : (al.size : Int) = 6 := by omega
  go_wp2_with fail
  go_loopg [8, 9, 10] (al.size) (fun (g : Nat) (v8 v9 v10 : Value) (wr : World) => ∃ (i : Nat) (kn : Bool) (ov : ByteArray), i + g = al.size ∧ v10 = .int .i64 (i : Int) ∧ v8 = .bool kn ∧ v9 = .string ov ∧ kn = decide (o ∈ (bs al).take i) ∧ bs ov = ((bs al).take i).filter f ∧ w = wr)
  case atStart => exact ⟨0, false, ⟨#[]⟩, by omega, rfl, rfl, rfl, rfl, rfl, rfl⟩
  case round =>
    obtain ⟨i, kn, ov, hik, rfl, rfl, rfl, hkn, hov, rfl⟩ := hrel
    have hi0 : (0 : Int) ≤ i := by omega
    by_cases hi : i < al.size
    · have hlt : (i : Int) < al.size := by omega
      have htk : (bs al).take (i + 1) = (bs al).take i ++ [al[i]] := by
        have hb : i < (bs al).length := by rw [bs_length]; exact hi
        rw [List.take_succ_eq_append_getElem hb]
        congr 2
      have hcat : bs (ov ++ al.extract i (i + 1)) = bs ov ++ [al[i]] := by rw [bsR_cat, bsR_one al i hi]
      have HC := Lib.hid hcat
      have hes : (al.extract i (i + 1)).size = 1 := by rw [← bs_length, bsR_one al i hi]; rfl
      have hos : ov.size ≤ 6 := by
        rw [← bs_length, hov]
        refine Nat.le_trans (List.length_filter_le ..) ?_
        rw [List.length_take, bs_length]; omega
      have Hik := Lib.hid hik
      have hfn : f al[i] = if al[i] = o then on else decide (al[i] ∈ p.o.data.toList) := by rw [Hf.out]
      have hkn2 : decide (o ∈ (bs al).take (i + 1)) = (kn || decide (al[i] = o)) := by
        rw [htk, hkn, Bool.eq_iff_iff]
        simp only [List.mem_append, List.mem_singleton, decide_eq_true_eq, Bool.or_eq_true]
        exact ⟨fun h => h.imp id Eq.symm, fun h => h.imp id Eq.symm⟩
      have hov2 : ((bs al).take (i + 1)).filter f = bs ov ++ (if f al[i] = true then [al[i]] else []) := by
        rw [htk, List.filter_append, hov, List.filter_cons, List.filter_nil]
      obtain ⟨x, hx⟩ : ∃ x, x = decide (al[i] ∈ p.o.data.toList) := ⟨_, rfl⟩
      rw [← hx] at hfn
      have HOx := HO.out al[i]
      rw [← hx] at HOx
      have HOx := Lib.hid HOx
      clear hik htk hkn hov hcat hx
      by_cases hc : al[i] = o
      · rw [if_pos hc] at hfn
        rw [decide_eq_true hc, Bool.or_true] at hkn2
        rw [hfn] at hov2
        have HK := Lib.hid hkn2
        have hcI : ((al[i].toNat : Nat) : Int) = ((o.toNat : Nat) : Int) := by rw [hc]
        clear hkn2 hfn HOx hc
        cases on with
        | true =>
          rw [if_pos rfl] at hov2
          have HV := Lib.hid hov2
          clear hov2
          cases kn
          all_goals
            go_wp2_with fail
            go_roundg (gk - 1)
            case measure => have := Hik.out; omega
            case rel => exact ⟨i + 1, true, _, by have := Hik.out; omega, rfl, rfl, rfl, HK.out.symm, by rw [HV.out]; exact HC.out, rfl⟩
        | false =>
          rw [if_neg (by decide), List.append_nil] at hov2
          have HV := Lib.hid hov2
          clear hov2
          cases kn
          all_goals
            go_wp2_with fail
            go_roundg (gk - 1)
            case measure => have := Hik.out; omega
            case rel => exact ⟨i + 1, true, _, by have := Hik.out; omega, rfl, rfl, rfl, HK.out.symm, HV.out.symm, rfl⟩
      · rw [if_neg hc] at hfn
        rw [decide_eq_false hc, Bool.or_false] at hkn2
        rw [hfn] at hov2
        have HK := Lib.hid hkn2
        have hcI : ¬ ((al[i].toNat : Nat) : Int) = ((o.toNat : Nat) : Int) := fun e => hc (UInt8.toNat_inj.1 (by omega))
        clear hkn2 hfn hc
        cases x with
        | true =>
          rw [if_pos rfl] at hov2
          have HV := Lib.hid hov2
          clear hov2
          cases kn
          all_goals
            go_wp2_with fail
            refine HOx.out.mono ?_
            rintro e w1 ⟨rfl, rfl⟩
            go_wp2_with fail
            go_roundg (gk - 1)
            case measure => have := Hik.out; omega
            case rel => exact ⟨i + 1, _, _, by have := Hik.out; omega, rfl, rfl, rfl, (by first | exact HK.out.symm | (rw [HK.out]; exact beq_false_of_ne hcI)), by rw [HV.out]; exact HC.out, rfl⟩
        | false =>
          rw [if_neg (by decide), List.append_nil] at hov2
          have HV := Lib.hid hov2
          clear hov2
          cases kn
          all_goals
            go_wp2_with fail
            refine HOx.out.mono ?_
            rintro e w1 ⟨rfl, rfl⟩
            go_wp2_with fail
            go_roundg (gk - 1)
            case measure => have := Hik.out; omega
            case rel => exact ⟨i + 1, _, _, by have := Hik.out; omega, rfl, rfl, rfl, (by first | exact HK.out.symm | (rw [HK.out]; exact beq_false_of_ne hcI)), HV.out.symm, rfl⟩
    · have hge : ¬ ((i : Int) < al.size) := by omega
      have htl : (bs al).take i = bs al := List.take_of_length_le (by rw [bs_length]; omega)
      rw [htl] at hkn hov
      clear hik htl hi
      cases kn with
      | true =>
        have hD := HD0.out (by simpa using hkn.symm)
        have hb := bsR_back _ _ hov
        have HE2 := Lib.hid (show OutS b A F w D.1 D.2 q (c + 1) (.returned (.int .i64 0)) (w.setCell ⟨b, 4, none⟩ (.string ov)) by rw [hD, ← hb]; exact HE0.out ov)
        clear hkn hov hD hb HE0 HE1 HD0 HD1 HO Hf
        go_wp2_with fail
        go_ret
        exact HE2.out
      | false =>
        have hD := HD1.out (by simpa using hkn.symm)
        have HE2 := Lib.hid (show OutS b A F w D.1 D.2 q (c + 1) (.returned (.int .i64 1)) w by rw [hD]; exact HE1.out)
        clear hkn hov hD HE0 HD0 HD1 HO Hf HE1
        go_wp2_with fail
        go_ret
        exact HE2.out
theorem gC_flat (l : List ByteArray) : l.flatMap gC = l.map sv := by
  induction l with
  | nil => rfl
  | cons x l ih => rw [List.flatMap_cons, ih]; rfl
theorem RdR.tail {R : Hp} {p : Option Addr} {cap : Nat} {L : List ByteArray} (h : RdR gC 1 R p cap L) {j : Nat} (hj : j ≤ L.length) : RdR gC 1 R (tailA p j cap 1) (cap - j) (L.drop j) := by
  refine ⟨by have := h.len; rw [List.length_drop]; omega, by have := h.top; omega, fun w S hS i hi => ?_⟩
  rw [List.length_drop] at hi
  obtain ⟨b, o, hp, hcel⟩ := h.cells w S hS (i + j) (by omega)
  refine ⟨b, o + j, ?_, fun m hm => ?_⟩
  · unfold tailA
    rw [if_neg (by have := h.len; omega), hp]
    simp [Addr.add]
  · have := hcel m hm
    rw [List.getElem_drop]
    rw [show o + j + i * 1 + m = o + (i + j) * 1 + m by omega, this]
    congr 2
    simp [Nat.add_comm]
set_option maxRecDepth 100000 in
set_option maxHeartbeats 4000000 in
theorem rsetg_calls (b : Nat) (s : Sr) (p : Pst) (q : Int) (c : Nat) (A F : Hp) (l : List ByteArray) (pl : Option Addr) (cl : Nat) (w : World) (hl : l.length ≤ 1000000) (hp : StrsAt w pl l) (hc : c ≤ 80000) (hG : SrG A p q c s) (h : Sat w (pts b (srO s) * (A * F))) :
    Calls Tryz.prog 84 #[pp b, .slice pl l.length cl] w (OutS b A F w (dSetG p l).1 (dSetG p l).2 q (c + 1)) := by
  obtain ⟨-, -, -, -, -, s5, s6, s7, -⟩ := sr_cells h
  by_cases c1 : 1000 < l.length
  · have e : dSetG p l = (20, p) := by unfold dSetG; rw [if_pos c1]
    rw [e]
    have HE := Lib.hid (OutS.same (en := 20) hG hc h (Below.refl 0 w))
    have c1I : (1000 : Int) < (l.length : Int) := by omega
    clear hG h e c1 hp hl
    go_enter Tryz.func84, Tryz.ntmps84
    go_wp2_with fail
    go_ret
    exact HE.out
  have c1I : (l.length : Int) ≤ 1000 := by omega
  have HE21 := Lib.hid (OutS.same (en := 21) hG hc h (Below.refl 0 w))
  have HA := Lib.hid (h.perm (show _ = (pts b (srO s) * (A * F)) by ac_rfl))
  have HE0 := Lib.hid (fun (q2 : Option Addr) (qc2 : Nat) (W : World) (hW : Sat W (arr 9 1 q2 l.length qc2 (l.map sv) * (pts b (srO s) * (A * F)))) (hR : Ran w W) => (by
    have hW2 : Sat W (arr 9 1 q2 l.length qc2 (l.flatMap gC) * (pts b (srO s) * (A * F))) := by rw [gC_flat]; exact hW
    exact OutS.of (w0 := w) (b := b) (F := F) (en := 0) (hG.setG (X := arr 9 1 q2 l.length qc2 (l.flatMap gC)) hc 1 0 (RdR.of_arr2 gC_len (by omega) hW2)) ((((hW2.perm (show _ = pts b (srO s) * (arr 9 1 q2 l.length qc2 (l.flatMap gC) * (A * F)) by ac_rfl)).set (i := 5) (.slice q2 l.length qc2)).set (i := 6) (.int .i64 1)).set (i := 7) (.int .i64 0)) (Ran.set (Ran.set (Ran.set hR ⟨b, 5, none⟩ (.slice q2 l.length qc2)) ⟨b, 6, none⟩ (.int .i64 1)) ⟨b, 7, none⟩ (.int .i64 0)) : OutS b A F w 0 { p with l := l, here := 1, within := 0 } q (c + 1) (.returned (.int .i64 0)) (((W.setCell ⟨b, 5, none⟩ (.slice q2 l.length qc2)).setCell ⟨b, 6, none⟩ (.int .i64 1)).setCell ⟨b, 7, none⟩ (.int .i64 0))))
  obtain ⟨D, hD⟩ : ∃ D, D = dSetG p l := ⟨_, rfl⟩
  have hD1 : (∃ i, ∃ hi : i < l.length, 4096 < l[i].size) → D = (21, p) := by
    rintro ⟨i, hi, h4⟩
    rw [hD]
    unfold dSetG
    rw [if_neg c1, if_pos (List.any_eq_true.2 ⟨l[i], List.getElem_mem hi, decide_eq_true h4⟩)]
  have hD0 : (∀ i (hi : i < l.length), l[i].size ≤ 4096) → D = (0, { p with l := l, here := 1, within := 0 }) := by
    intro ha
    rw [hD]
    unfold dSetG
    rw [if_neg c1, if_neg]
    rw [List.any_eq_true]
    rintro ⟨x, hx, h4⟩
    obtain ⟨i, hi, rfl⟩ := List.mem_iff_getElem.1 hx
    have := ha i hi
    have := of_decide_eq_true h4
    omega
  have HD1 := Lib.hid hD1
  have HD0 := Lib.hid hD0
  have HP := Lib.hid hp
  rw [← hD]
  clear hG h hD1 hD0 hD c1 hp
  go_enter Tryz.func84, Tryz.ntmps84
  go_wp2_with fail
  go_loopg [5] (l.length) (fun (g : Nat) (iv : Value) (wr : World) => ∃ i : Nat, i + g = l.length ∧ iv = .int .i64 (i : Int) ∧ (∀ j (hj : j < l.length), j < i → l[j].size ≤ 4096) ∧ w = wr)
  case atStart => exact ⟨0, by omega, rfl, fun j _ h => absurd h (Nat.not_lt_zero j), rfl⟩
  case round =>
    obtain ⟨i, hik, rfl, hall, rfl⟩ := hrel
    have hi0 : (0 : Int) ≤ i := by omega
    have Hik := Lib.hid hik
    by_cases hi : i < l.length
    · have hlt : (i : Int) < l.length := by omega
      obtain ⟨pb, po, hpa⟩ := HP.out.addr hi
      have hcell := HP.out
      rw [hpa] at hcell
      have p0 := hcell.at hi
      by_cases h4 : 4096 < l[i].size
      · have hDe := HD1.out ⟨i, hi, h4⟩
        have h4I : (4096 : Int) < (l[i].size : Int) := by omega
        have HE2 := Lib.hid (show OutS b A F w D.1 D.2 q (c + 1) (.returned (.int .i64 21)) w by rw [hDe]; exact HE21.out)
        subst hpa
        obtain ⟨t, ht⟩ : ∃ t, t = l[i] := ⟨_, rfl⟩
        rw [← ht] at p0 h4I
        clear hall hik h4 hcell hDe HD0 HD1 HE0 ht
        go_wp2_with fail
        go_ret
        exact HE2.out
      · have h4I : ¬ (4096 : Int) < (l[i].size : Int) := by omega
        have hall2 : ∀ j (hj : j < l.length), j < i + 1 → l[j].size ≤ 4096 := fun j hj hji => by
          by_cases e : j = i
          · subst e; omega
          · exact hall j hj (by omega)
        have HL := Lib.hid hall2
        subst hpa
        obtain ⟨t, ht⟩ : ∃ t, t = l[i] := ⟨_, rfl⟩
        rw [← ht] at p0 h4I
        clear hall hik h4 hcell ht hall2
        go_wp2_with fail
        go_roundg (gk - 1)
        case measure => have := Hik.out; omega
        case rel => exact ⟨i + 1, by have := Hik.out; omega, rfl, HL.out, rfl⟩
    · have hge : ¬ ((i : Int) < l.length) := by omega
      have hDe := HD0.out (fun j hj => hall j hj (by omega))
      have hD1 : D.1 = 0 := by rw [hDe]
      have hD2 : D.2 = { p with l := l, here := 1, within := 0 } := by rw [hDe]
      have HE0 := Lib.hid (fun (q2 : Option Addr) (qc2 : Nat) (W : World) (hW : Sat W (arr 9 1 q2 l.length qc2 (l.map sv) * (pts b (srO s) * (A * F)))) (hR : Ran w W) => (by rw [hD1, hD2]; exact HE0.out q2 qc2 W hW hR : OutS b A F w D.1 D.2 q (c + 1) (.returned (.int .i64 0)) (((W.setCell ⟨b, 5, none⟩ (.slice q2 l.length qc2)).setCell ⟨b, 6, none⟩ (.int .i64 1)).setCell ⟨b, 7, none⟩ (.int .i64 0))))
      clear hall hik hi hDe HD0 HD1 HE21
      go_upto_region 10 with (at_builtin; go_loud (refine appRow rfl _ _ rfl none 0 0 [] rfl pl cl l l.length rfl rfl HP.out (HA.out.nil_arr _ _) (by omega) ?_; intro q2 qc2 w6 T6 R6; rw [Nat.zero_add] at *; have T6 := T6.perm (show _ = arr 9 1 q2 l.length qc2 (l.map sv) * (pts b (srO s) * (A * F)) by rw [List.nil_append]); obtain ⟨-, -, -, -, -, t5, t6, t7, -⟩ := sr_cells (T6.perm (show _ = pts b (srO s) * (arr 9 1 q2 l.length qc2 (l.map sv) * (A * F)) by ac_rfl)); have fz := sr_free (T6.perm (show _ = pts b (srO s) * (arr 9 1 q2 l.length qc2 (l.map sv) * (A * F)) by ac_rfl)); have HE2 := Lib.hid (HE0.out q2 qc2 w6 T6 R6); clear HA T6 R6 HE0 s5 s6 s7 HP hD1 hD2))
      go_wp2_with fail
      go_ret
      exact HE2.out
set_option maxRecDepth 100000 in
set_option maxHeartbeats 4000000 in
theorem rshift_calls (b : Nat) (s : Sr) (p : Pst) (q : Int) (c : Nat) (A F : Hp) (k : Int) (w : World)  (hc : c ≤ 80000) (hG : SrG A p q c s) (h : Sat w (pts b (srO s) * (A * F))) :
    Calls Tryz.prog 85 #[pp b, .int .i64 k] w (OutS b A F w (dShift p k).1 (dShift p k).2 q (c + 1)) := by
  obtain ⟨-, -, -, -, -, s5, -⟩ := sr_cells h
  have f5 := sr_free h 5
  have hgl : s.G.length = p.l.length := by rw [hG.is.G]
  by_cases c1 : k < 0
  · have e : dShift p k = (1, p) := by unfold dShift; rw [if_pos (.inl c1)]
    rw [e]
    have HE := Lib.hid (OutS.same (en := 1) hG hc h (Below.refl 0 w))
    clear hG h e
    go_enter Tryz.func85, Tryz.ntmps85
    go_wp2_with fail
    go_ret
    exact HE.out
  by_cases c2 : (p.l.length : Int) < k
  · have e : dShift p k = (1, p) := by unfold dShift; rw [if_pos (.inr c2)]
    rw [e]
    have HE := Lib.hid (OutS.same (en := 1) hG hc h (Below.refl 0 w))
    have c2I : (s.G.length : Int) < k := by omega
    clear hG h e c2 hgl
    go_enter Tryz.func85, Tryz.ntmps85
    go_wp2_with fail
    go_ret
    exact HE.out
  have e : dShift p k = (0, { p with l := p.l.drop k.toNat }) := by unfold dShift; rw [if_neg (by omega)]
  rw [e]
  obtain ⟨j, rfl⟩ : ∃ j : Nat, k = j := ⟨k.toNat, by omega⟩
  have hj : j ≤ s.G.length := by omega
  have hgk := hG.ok.G.tail hj
  have HE := Lib.hid (show OutS b A F w 0 { p with l := p.l.drop j } q (c + 1) (.returned (.int .i64 0)) (w.setCell ⟨b, 5, none⟩ (.slice (tailA s.gp j s.gc 1) (s.G.length - j) (s.gc - j))) from by
    have h1 := hG.setG (X := Hp.emp) hc s.at_ s.in_ (hgk.more (S := Hp.emp))
    rw [hG.is.at_, hG.is.in_] at h1
    have h2 := h.set (i := 5) (.slice (tailA s.gp j s.gc 1) (s.G.length - j) (s.gc - j))
    have h3 := OutS.of (w0 := w) (w := w.setCell ⟨b, 5, none⟩ (.slice (tailA s.gp j s.gc 1) (s.G.length - j) (s.gc - j))) (b := b) (F := F) (en := 0) h1 (by
      rw [emp_sep, ← hG.is.at_, ← hG.is.in_]
      unfold srO
      dsimp only
      rw [List.length_drop]
      exact h2) (Ran.set (Below.refl 0 w) ⟨b, 5, none⟩ _)
    rw [hG.is.G] at h3
    rw [hG.is.G]
    exact h3)
  have hsl := fun W => str_from s.gp s.G.length s.gc j hj W
  have hjI : (j : Int) ≤ (s.G.length : Int) := by omega
  have hjn : ¬ (s.G.length : Int) < (j : Int) := by omega
  have hj0 : (0 : Int) ≤ (j : Int) := by omega
  have hcl := hG.ok.G.len
  have hct := hG.ok.G.top
  have hcI : (s.gc : Int) ≤ 9223372036854775807 := by unfold maxLen at hct; omega
  have hclI : (s.G.length : Int) ≤ (s.gc : Int) := by omega
  rw [show ((j : Int)).toNat = j from Int.toNat_natCast j]
  clear hG h e c2 hgl hgk c1 hcl hct
  go_enter Tryz.func85, Tryz.ntmps85
  go_wp2_with fail
  go_ret
  exact HE.out
end Go.Proofs.YtlmjidandjemjaaGreatDoor.State

