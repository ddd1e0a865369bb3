/- Behind a mark: what stays, and that undoing comes back to what was ahead of it. -/
import Derived.Test.YtlmjidandjemjaaGreatDoorStGd
namespace Go.Proofs.YtlmjidandjemjaaGreatDoor.State
open Go.RowKit Go.Proofs.YtlmjidandjemjaaGreatDoor Go.Proofs.YtlmjidandjemjaaGreatDoor.Hp Go.Proofs.YtlmjidandjemjaaGreatDoor.Undo
set_option linter.unusedVariables false

/-- Behind a mark that was opened at n0; rest: the marks behind it. -/
structure BehindN (n0 : Now) (rest : List Nat) (n : Now) : Prop where
  ms : n.ms = n0.ms ++ n0.hist.length :: rest
  hist : n.hist.take n0.hist.length = n0.hist
  s : (n.hist ++ [n.s])[n0.hist.length]? = some n0.s
theorem BehindN.le {n0 n : Now} {rest : List Nat} (h : BehindN n0 rest n) : n0.hist.length ≤ n.hist.length := by
  have := congrArg List.length h.hist
  rw [List.length_take] at this; omega
theorem BehindN.ne {n0 n : Now} {rest : List Nat} (h : BehindN n0 rest n) : n.ms ≠ [] := by rw [h.ms]; simp
theorem BehindN.len {n0 n : Now} {rest : List Nat} (h : BehindN n0 rest n) : n.ms.length = n0.ms.length + 1 + rest.length := by rw [h.ms]; simp; omega
theorem BehindN.of_eq {n0 n m : Now} {rest : List Nat} (h : BehindN n0 rest n) (e1 : m.hist = n.hist) (e2 : m.ms = n.ms) (e3 : m.s = n.s) : BehindN n0 rest m :=
  ⟨by rw [e2]; exact h.ms, by rw [e1]; exact h.hist, by rw [e1, e3]; exact h.s⟩
theorem behindN_mark (n : Now) : BehindN n [] { n with ms := n.ms ++ [n.hist.length] } :=
  ⟨rfl, List.take_length, by show (n.hist ++ [n.s])[n.hist.length]? = _; rw [List.getElem?_append_right (Nat.le_refl _), Nat.sub_self]; rfl⟩
theorem markedN_mem : ∀ (l : List Nat) (n : Nat), Marked n l → ∀ x ∈ l, x ≤ n := by
  intro l
  induction l with
  | nil => intro n _ x hx; cases hx
  | cons m l ih =>
    intro n h x hx
    rcases List.mem_cons.1 hx with rfl | hx
    · exact h.1
    · exact Nat.le_trans (ih m h.2 x hx) h.1
theorem behindN_put {most : Int} {n0 n : Now} {rest : List Nat} (h : BehindN n0 rest n) (s2 : Pst) : BehindN n0 rest (n.put most s2).2 := by
  have hle := h.le
  have hne := h.ne
  have hs := h.s
  unfold Now.put tE tH
  simp only [if_neg hne]
  by_cases d : (n.hist.length : Int) < most
  · simp only [if_pos d, if_true]
    refine ⟨h.ms, ?_, ?_⟩
    · show (n.hist ++ [n.s]).take _ = _
      rw [List.take_append_of_le_length hle]; exact h.hist
    · show ((n.hist ++ [n.s]) ++ [s2])[n0.hist.length]? = _
      rw [List.getElem?_append_left (by simp; omega)]; exact h.s
  · simp only [if_neg d, show ¬ (43 : Int) = 0 by decide, if_false]
    exact ⟨h.ms, h.hist, h.s⟩
theorem undoM_snoc (n : Now) (l : List Nat) (r : Nat) (h : n.ms = l ++ [r]) : n.undoM = (0, ⟨n.hist.take r, l, n.N, (n.hist ++ [n.s]).getD r n.s, n.q⟩) := by
  unfold Now.undoM
  rw [h, List.reverse_append]
  simp
theorem behindN_undo {n0 n : Now} {rest : List Nat} {r : Nat} (h : BehindN n0 (rest ++ [r]) n) (hm : Marked n.hist.length n.ms.reverse) : BehindN n0 rest n.undoM.2 := by
  have hms : n.ms = (n0.ms ++ n0.hist.length :: rest) ++ [r] := by rw [h.ms]; simp
  rw [undoM_snoc n _ r hms]
  rw [hms, List.reverse_append] at hm
  have hr : r ≤ n.hist.length := hm.1
  have hm2 : Marked r (n0.ms ++ n0.hist.length :: rest).reverse := hm.2
  have h0r : n0.hist.length ≤ r := markedN_mem _ _ hm2 _ (by simp)
  refine ⟨rfl, ?_, ?_⟩
  · show (n.hist.take r).take n0.hist.length = _
    rw [List.take_take, Nat.min_eq_left h0r]; exact h.hist
  · show (n.hist.take r ++ [(n.hist ++ [n.s]).getD r n.s])[n0.hist.length]? = _
    have hs := h.s
    by_cases c : n0.hist.length < r
    · rw [List.getElem?_append_left (by rw [List.length_take]; omega), List.getElem?_take, if_pos c]
      rw [List.getElem?_append_left (by omega)] at hs; exact hs
    · have e : n0.hist.length = r := by omega
      rw [List.getElem?_append_right (by rw [List.length_take]; omega), List.length_take, Nat.min_eq_left hr, e, Nat.sub_self]
      rw [e] at hs
      rw [List.getD_eq_getElem?_getD, hs]; rfl
/-- Undone, all is as it was. -/
theorem behindN_back {n0 n : Now} (h : BehindN n0 [] n) : n.undoM.1 = 0 ∧ n.undoM.2.hist = n0.hist ∧ n.undoM.2.ms = n0.ms ∧ n.undoM.2.s = n0.s ∧ n.undoM.2.q = n.q ∧ n.undoM.2.N = n.N := by
  rw [undoM_snoc n n0.ms n0.hist.length h.ms]
  refine ⟨rfl, h.hist, rfl, ?_, rfl, rfl⟩
  show (n.hist ++ [n.s]).getD n0.hist.length n.s = _
  rw [List.getD_eq_getElem?_getD, h.s]
  rfl
theorem behindN_delT {most : Int} {n0 n : Now} {rest : List Nat} (h : BehindN n0 rest n) (k : ByteArray) : BehindN n0 rest (n.delT most k).2 := by
  unfold Now.delT
  split
  · exact h
  · exact behindN_put h _
theorem behindN_enter {most : Int} {n0 : Now} {rest : List Nat} : ∀ (ks : List ByteArray) (n : Now), BehindN n0 rest n → BehindN n0 rest (Now.enterL most ks n).2
  | [], n, h => h
  | k :: ks, n, h => by
    rw [enterL_cons]
    split
    · exact behindN_enter ks n h
    split
    · exact behindN_enter ks _ (behindN_delT h k)
    · exact behindN_delT h k
/-- A call behind a mark. -/
theorem behindN_do {K : Ctx} {n0 n m : Now} {rest : List Nat} {o : Opr} {en : Int} (h : BehindN n0 rest n) (hm : Marked n.hist.length n.ms.reverse) (hd : DoR K n o en m) (ho : 18 ≤ askI o → rest ≠ []) : ∃ rest', BehindN n0 rest' m := by
  have key : ∀ {r : Int × Now}, (en, m) = r → (∃ rest', BehindN n0 rest' r.2) → ∃ rest', BehindN n0 rest' m := fun e h => by rw [← e] at h; exact h
  have hid : ∃ rest', BehindN n0 rest' n := ⟨rest, h⟩
  have hput : ∀ s2, ∃ rest', BehindN n0 rest' (n.put K.most s2).2 := fun s2 => ⟨rest, behindN_put h s2⟩
  have hundo : 18 ≤ askI o → ∃ rest', BehindN n0 rest' n.undoM.2 := fun h18 => by
    have hr := ho h18
    rw [← List.dropLast_concat_getLast hr] at h
    exact ⟨_, behindN_undo h hm⟩
  have hmark : ∃ rest', BehindN n0 rest' (n.markM K.nest).2 := by
    unfold Now.markM
    split
    · exact hid
    · exact ⟨rest ++ [n.hist.length], by show n.ms ++ [n.hist.length] = _; rw [h.ms]; simp, h.hist, h.s⟩
  cases hd with
  | c0 ha hd => refine key hd ?_; unfold Now.setP; split; exact hid; split; exact hid; split; exact hid; exact hput _
  | c1 ha hd => refine key hd ?_; unfold Now.unsetP Now.delV; split; exact hid; split; exact hid; split; exact hid; exact hput _
  | c2 ha hd => refine key hd ?_; unfold Now.markP; dsimp only; split; exact hid; split; exact hid; exact hput _
  | c3 ha hd => refine key hd ?_; unfold Now.setF; split; exact hid; exact hput _
  | c4 ha hd => refine key hd ?_; unfold Now.unsetF; split; exact hid; split; exact hid; exact hput _
  | c5 ha hd => refine key hd ?_; unfold Now.setA; split; exact hid; split; exact hid; exact hput _
  | c6 ha hd => refine key hd ?_; unfold Now.unA; split; exact hid; exact hput _
  | c7 ha hd => refine key hd ?_; unfold Now.setT; split; exact hid; split; exact hid; exact hput _
  | c8 ha hd => refine key hd ?_; unfold Now.unT; split; exact hid; exact ⟨rest, behindN_delT h _⟩
  | c9 ha hd => obtain ⟨ks, hk, hd⟩ := hd; exact key hd ⟨rest, behindN_enter ks n h⟩
  | c10 ha hd => refine key hd ?_; unfold Now.setO; split; exact hput _; exact hid
  | c11 ha hd => refine key hd ?_; unfold Now.setO; split; exact hput _; exact hid
  | c12 ha hd => refine key hd ?_; unfold Now.setG; split; exact hid; split; exact hid; exact hput _
  | c13 ha hd => refine key hd ?_; unfold Now.shiftP; split; exact hid; exact hput _
  | c14 ha hd => refine key hd ?_; unfold Now.setC; split; exact hid; exact hput _
  | c15 ha hd => exact key hd ⟨rest, h.of_eq rfl rfl rfl⟩
  | c16 ha hd => exact key hd hmark
  | c17 ha hd => exact key hd hmark
  | c18 ha hd => exact key hd (hundo (by omega))
  | c19 ha hd => exact key hd (hundo (by omega))
theorem SAt.marked {K : Ctx} {w : World} {n : Now} {R : Hp} (h : SAt K w n R) : Marked n.hist.length n.ms.reverse := by
  obtain ⟨hist, s, rws, h1, h2, h3, rs, B, g0, g1, g2, g3, HL⟩ := h
  rw [h1, List.length_map]
  first | exact g0 | exact g1 | exact g2
/-- The keys of a map are one list. -/
theorem keys_unique {α : Type} {M : ByteArray → Option α} {a b : List ByteArray} (ha : KeysOf M a) (hb : KeysOf M b) : a = b := by
  have go : ∀ (a b : List ByteArray), a.Pairwise (fun x y => bs x < bs y) → b.Pairwise (fun x y => bs x < bs y) → (∀ x, x ∈ a ↔ x ∈ b) → a = b := by
    intro a
    induction a with
    | nil =>
      intro b _ _ hm
      cases b with
      | nil => rfl
      | cons y b => exact absurd ((hm y).2 List.mem_cons_self) (by simp)
    | cons x a ih =>
      intro b h1 h2 hm
      cases b with
      | nil => exact absurd ((hm x).1 List.mem_cons_self) (by simp)
      | cons y b =>
        have h1' := List.pairwise_cons.1 h1
        have h2' := List.pairwise_cons.1 h2
        have hxy : x = y := by
          rcases List.mem_cons.1 ((hm x).1 List.mem_cons_self) with h | hx
          · exact h
          rcases List.mem_cons.1 ((hm y).2 List.mem_cons_self) with h | hy
          · exact h.symm
          exact absurd (List.lt_trans (h2'.1 x hx) (h1'.1 y hy)) (List.lt_irrefl _)
        subst hxy
        congr 1
        refine ih b h1'.2 h2'.2 fun z => ⟨fun hz => ?_, fun hz => ?_⟩
        · rcases List.mem_cons.1 ((hm z).1 (List.mem_cons_of_mem _ hz)) with h | h
          · subst h; exact absurd (h1'.1 z hz) (List.lt_irrefl _)
          · exact h
        · rcases List.mem_cons.1 ((hm z).2 (List.mem_cons_of_mem _ hz)) with h | h
          · subst h; exact absurd (h2'.1 z hz) (List.lt_irrefl _)
          · exact h
  exact go a b ha.1 hb.1 fun x => (ha.2 x).trans (hb.2 x).symm
end Go.Proofs.YtlmjidandjemjaaGreatDoor.State
