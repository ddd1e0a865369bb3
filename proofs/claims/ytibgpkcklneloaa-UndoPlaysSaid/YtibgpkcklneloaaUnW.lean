/- Plain facts of the document's answer: pairs without a key, and with one laid in its place; a machine and its copies. -/
import Derived.Test.YtibgpkcklneloaaUnV
import Derived.Laws.Cover1
import Derived.Sort.Walk0
namespace Go.Proofs.Ytibgpkcklneloaa.Undo
open Go.RowKit Go.Proofs.Ytibgpkcklneloaa Go.Proofs.Ytibgpkcklneloaa.Hp
set_option linter.unusedVariables false

/-- x behind k, as the code compares. -/
def behindK (x k : ByteArray) : Bool := !(Op.bytesLess x.toList k.toList || x.toList == k.toList)
theorem toList_eq_iff (x k : ByteArray) : (x.toList == k.toList) = true ↔ x = k := by
  rw [ByteArray.toList_eq, ByteArray.toList_eq, beq_iff_eq]
  constructor
  · intro h; cases x; cases k; simp at h; rw [h]
  · intro h; rw [h]
theorem toList_ne {x k : ByteArray} (h : x ≠ k) : (x.toList == k.toList) = false := by
  cases e : (x.toList == k.toList) with
  | false => rfl
  | true => exact absurd ((toList_eq_iff x k).1 e) h
theorem lt_tri {x k : ByteArray} (h : x ≠ k) : x.data.toList < k.data.toList ∨ k.data.toList < x.data.toList := by
  rcases List.le_total x.data.toList k.data.toList with h1 | h1
  · rcases List.le_iff_lt_or_eq.1 h1 with h2 | h2
    · exact .inl h2
    · exact absurd (by cases x; cases k; simp at h2; rw [h2]) h
  · rcases List.le_iff_lt_or_eq.1 h1 with h2 | h2
    · exact .inr h2
    · exact absurd (by cases x; cases k; simp at h2; rw [h2]) h
theorem behindK_iff (x k : ByteArray) : behindK x k = true ↔ k.data.toList < x.data.toList := by
  unfold behindK
  rw [Go.Proofs.bytesLess_eq, ByteArray.toList_eq, ByteArray.toList_eq]
  constructor
  · intro h
    simp only [Bool.not_eq_true', Bool.or_eq_false_iff, decide_eq_false_iff_not, beq_eq_false_iff_ne] at h
    have hne : x ≠ k := fun e => h.2 (by rw [e])
    exact (lt_tri hne).resolve_left h.1
  · intro h
    simp only [Bool.not_eq_true', Bool.or_eq_false_iff, decide_eq_false_iff_not, beq_eq_false_iff_ne]
    exact ⟨fun h2 => List.lt_irrefl _ (List.lt_trans h h2), fun e => by rw [e] at h; exact List.lt_irrefl _ h⟩
/-- The pairs of other keys. -/
def without (k : ByteArray) (L : List Pr) : List Pr := L.filter fun x => !(x.1.toList == k.toList)
theorem without_snoc (k : ByteArray) (L : List Pr) (x : Pr) : without k (L ++ [x]) = without k L ++ (if (x.1.toList == k.toList) = true then [] else [x]) := by
  unfold without
  rw [List.filter_append]
  congr 1
  cases h : (x.1.toList == k.toList) <;> simp [h]
theorem without_mem {k : ByteArray} {L : List Pr} {x : Pr} : x ∈ without k L ↔ x ∈ L ∧ x.1 ≠ k := by
  unfold without
  rw [List.mem_filter]
  refine and_congr_right fun _ => ?_
  rw [Bool.not_eq_true', ← Bool.not_eq_true, toList_eq_iff]
theorem without_pairs {M : ByteArray → Option Int} {L : List Pr} (h : PairsOf M L) (k : ByteArray) : PairsOf (delM M k) (without k L) := by
  have hks : (without k L).map Prod.fst = (L.map Prod.fst).filter fun s => !(s.toList == k.toList) := by
    unfold without
    rw [List.filter_map]
    rfl
  refine ⟨⟨?_, fun s => ?_⟩, fun x hx => ?_⟩
  · rw [hks]
    exact List.Pairwise.filter _ h.1.1
  · rw [List.mem_map]
    unfold delM
    constructor
    · rintro ⟨x, hx, rfl⟩
      obtain ⟨h1, h2⟩ := without_mem.1 hx
      rw [if_neg h2]
      exact (h.1.2 x.1).1 (List.mem_map.2 ⟨x, h1, rfl⟩)
    · intro hs
      by_cases c : s = k
      · rw [if_pos c] at hs; cases hs
      · rw [if_neg c] at hs
        obtain ⟨x, h1, rfl⟩ := List.mem_map.1 ((h.1.2 s).2 hs)
        exact ⟨x, without_mem.2 ⟨h1, c⟩, rfl⟩
  · obtain ⟨h1, h2⟩ := without_mem.1 hx
    unfold delM
    rw [if_neg h2]
    exact h.2 x h1
/-- A pair laid in its place. -/
def insP (k : ByteArray) (v : Int) : List Pr → List Pr
  | [] => [(k, v)]
  | x :: l => if behindK x.1 k = true then (k, v) :: x :: l else x :: insP k v l
def stepP (k : ByteArray) (v : Int) (s : List Pr × Bool) (x : Pr) : List Pr × Bool :=
  if (!s.2 && behindK x.1 k) = true then (s.1 ++ [(k, v)] ++ [x], true) else (s.1 ++ [x], s.2)
def endP (k : ByteArray) (v : Int) (s : List Pr × Bool) : List Pr := if s.2 = true then s.1 else s.1 ++ [(k, v)]
theorem fold_done (k : ByteArray) (v : Int) : ∀ (l o : List Pr), l.foldl (stepP k v) (o, true) = (o ++ l, true) := by
  intro l
  induction l with
  | nil => intro o; simp
  | cons x l ih => intro o; rw [List.foldl_cons]; simp only [stepP, Bool.not_true, Bool.false_and, Bool.false_eq_true, if_false]; rw [ih]; simp
theorem fold_ins (k : ByteArray) (v : Int) : ∀ (l o : List Pr), endP k v (l.foldl (stepP k v) (o, false)) = o ++ insP k v l := by
  intro l
  induction l with
  | nil => intro o; rfl
  | cons x l ih =>
    intro o
    rw [List.foldl_cons]
    unfold insP
    by_cases c : behindK x.1 k = true
    · rw [if_pos c]
      have e : stepP k v (o, false) x = (o ++ [(k, v)] ++ [x], true) := by unfold stepP; rw [if_pos (by simpa using c)]
      rw [e, fold_done]
      unfold endP
      simp
    · rw [if_neg c]
      have e : stepP k v (o, false) x = (o ++ [x], false) := by unfold stepP; rw [if_neg (by simpa using c)]
      rw [e, ih]
      simp
theorem ins_mem {k : ByteArray} {v : Int} {l : List Pr} {x : Pr} : x ∈ insP k v l ↔ x = (k, v) ∨ x ∈ l := by
  induction l with
  | nil => simp [insP]
  | cons y l ih =>
    unfold insP
    by_cases c : behindK y.1 k = true
    · rw [if_pos c, List.mem_cons]
    · rw [if_neg c, List.mem_cons, ih, List.mem_cons]
      constructor
      · rintro (h | h | h)
        · exact .inr (.inl h)
        · exact .inl h
        · exact .inr (.inr h)
      · rintro (h | h | h)
        · exact .inr (.inl h)
        · exact .inl h
        · exact .inr (.inr h)
theorem ins_rising {k : ByteArray} {v : Int} {l : List Pr} (h : Rising (l.map Prod.fst)) (hk : ∀ x ∈ l, x.1 ≠ k) : Rising ((insP k v l).map Prod.fst) := by
  induction l with
  | nil => exact List.pairwise_singleton _ _
  | cons y l ih =>
    have h1 : (∀ z ∈ l.map Prod.fst, y.1.data.toList < z.data.toList) ∧ Rising (l.map Prod.fst) := List.pairwise_cons.1 h
    unfold insP
    by_cases c : behindK y.1 k = true
    · rw [if_pos c]
      have c' := (behindK_iff y.1 k).1 c
      refine List.pairwise_cons.2 ⟨fun z hz => ?_, h⟩
      rcases List.mem_cons.1 hz with rfl | hz
      · exact c'
      · exact List.lt_trans c' (h1.1 z hz)
    · rw [if_neg c]
      have c2 := (lt_tri (hk y (List.mem_cons_self ..))).resolve_right fun h => c ((behindK_iff y.1 k).2 h)
      refine List.pairwise_cons.2 ⟨fun z hz => ?_, ih h1.2 fun x hx => hk x (List.mem_cons_of_mem _ hx)⟩
      obtain ⟨x, hx, rfl⟩ := List.mem_map.1 hz
      rcases ins_mem.1 hx with rfl | hx
      · exact c2
      · exact h1.1 _ (List.mem_map.2 ⟨x, hx, rfl⟩)
theorem ins_pairs {M : ByteArray → Option Int} {L : List Pr} (h : PairsOf M L) (k : ByteArray) (v : Int) : PairsOf (putM M k v) (insP k v (without k L)) := by
  have h2 := without_pairs h k
  refine ⟨⟨ins_rising h2.1.1 fun x hx => (without_mem.1 hx).2, fun s => ?_⟩, fun x hx => ?_⟩
  · rw [List.mem_map]
    unfold putM
    constructor
    · rintro ⟨x, hx, rfl⟩
      rcases ins_mem.1 hx with rfl | hx
      · rw [if_pos rfl]; rfl
      · obtain ⟨h3, h4⟩ := without_mem.1 hx
        rw [if_neg h4]
        exact (h.1.2 x.1).1 (List.mem_map.2 ⟨x, h3, rfl⟩)
    · intro hs
      by_cases c : s = k
      · exact ⟨(k, v), ins_mem.2 (.inl rfl), c.symm⟩
      · rw [if_neg c] at hs
        obtain ⟨x, h3, rfl⟩ := List.mem_map.1 ((h.1.2 s).2 hs)
        exact ⟨x, ins_mem.2 (.inr (without_mem.2 ⟨h3, c⟩)), rfl⟩
  · unfold putM
    rcases ins_mem.1 hx with rfl | hx
    · rw [if_pos rfl]
    · obtain ⟨h3, h4⟩ := without_mem.1 hx
      rw [if_neg h4]
      exact h.2 x h3
theorem without_len (k : ByteArray) (L : List Pr) : (without k L).length ≤ L.length := List.length_filter_le ..
theorem ins_len (k : ByteArray) (v : Int) (L : List Pr) : (insP k v L).length = L.length + 1 := by
  induction L with
  | nil => rfl
  | cons x l ih =>
    unfold insP
    split
    · rfl
    · rw [List.length_cons, ih]; rfl
/-- What a map has at a key, by its pairs. -/
theorem look_none {M : ByteArray → Option Int} {L : List Pr} (h : PairsOf M L) {k : ByteArray} (hk : M k = none) : ∀ x ∈ L, x.1 ≠ k := by
  rintro x hx rfl
  rw [h.2 x hx] at hk; cases hk
theorem look_some {M : ByteArray → Option Int} {L : List Pr} (h : PairsOf M L) {k : ByteArray} {v : Int} (hk : M k = some v) : ∃ j, ∃ hj : j < L.length, L[j].1 = k ∧ L[j].2 = v ∧ ∀ i (hi : i < L.length), i ≠ j → L[i].1 ≠ k := by
  have h1 : k ∈ L.map Prod.fst := (h.1.2 k).2 (by rw [hk]; rfl)
  obtain ⟨x, hx, rfl⟩ := List.mem_map.1 h1
  obtain ⟨j, hj, rfl⟩ := List.mem_iff_getElem.1 hx
  refine ⟨j, hj, rfl, ?_, fun i hi hne e => ?_⟩
  · have := h.2 _ hx; rw [hk] at this; simpa using this.symm
  · have hnd : (L.map Prod.fst).Nodup := rising_nodup h.1.1
    have := (List.getElem_inj (xs := L.map Prod.fst) (i := i) (j := j) (h₀ := by rw [List.length_map]; exact hi) (h₁ := by rw [List.length_map]; exact hj) hnd).1 (by simpa using e)
    exact hne this
/-- A state and its copy: pairs and a cell's text. -/
structure Cp where
  p : Option Addr
  cap : Nat
  L : List Pr
  c : ByteArray
structure StR (s : St) (x : Cp) : Prop where
  L : PairsOf s.M x.L
  c : x.c = s.c
/-- A machine and its copies. -/
structure Sync (m : Mach) (now : Cp) (was : List Cp) : Prop where
  now : StR m.s now
  len : was.length = m.ms.length
  was : ∀ i (h : i < m.ms.length) (h2 : i < was.length), StR ((m.hist ++ [m.s]).getD m.ms[i] m.s) was[i]
theorem marked_at {m : Mach} (hm : Marked m.hist.length m.ms.reverse) (i : Nat) (h : i < m.ms.length) : m.ms[i] ≤ m.hist.length :=
  marked_mem _ _ hm _ (List.mem_reverse.2 (List.getElem_mem h))
theorem Sync.mark {m : Mach} {now : Cp} {was : List Cp} (h : Sync m now was) (hm : Marked m.hist.length m.ms.reverse) : Sync (markM m) now (was ++ [now]) := by
  refine ⟨h.now, ?_, fun i hi h2 => ?_⟩
  · show _ = (m.ms ++ [m.hist.length]).length
    rw [List.length_append, List.length_append, h.len]; rfl
  · change i < (m.ms ++ [m.hist.length]).length at hi
    have hi' : i < m.ms.length + 1 := by simpa using hi
    show StR ((m.hist ++ [m.s]).getD (m.ms ++ [m.hist.length])[i] m.s) _
    by_cases c : i < m.ms.length
    · rw [List.getElem_append_left c, List.getElem_append_left (by rw [h.len]; exact c)]
      exact h.was i c (by rw [h.len]; exact c)
    · have e : i = m.ms.length := by omega
      subst e
      rw [List.getElem_append_right (Nat.le_refl _), List.getElem_append_right (by rw [h.len]; exact Nat.le_refl _)]
      simp only [Nat.sub_self, List.getElem_cons_zero, h.len]
      rw [List.getD_eq_getElem?_getD, List.getElem?_append_right (Nat.le_refl _), Nat.sub_self]
      exact h.now
theorem Sync.undo {m : Mach} {now : Cp} {was : List Cp} (h : Sync m now was) (hm : Marked m.hist.length m.ms.reverse) (hne : m.ms ≠ []) (hw : m.ms.length - 1 < was.length) : Sync (undoM m) was[m.ms.length - 1] was.dropLast := by
  have hp : 0 < m.ms.length := List.length_pos_iff.2 hne
  have hlast : m.ms.getLastD 0 = m.ms[m.ms.length - 1] := by
    rw [List.getLastD_eq_getLast?, List.getLast?_eq_some_getLast hne, List.getLast_eq_getElem]; rfl
  have hle := marked_at hm (m.ms.length - 1) (by omega)
  have hsort : ∀ i (hi : i < m.ms.length - 1), m.ms[i] ≤ m.ms[m.ms.length - 1] := fun i hi => by
    have e : m.ms = m.ms.dropLast ++ [m.ms[m.ms.length - 1]] := by
      rw [← List.getLast_eq_getElem hne]; exact (List.dropLast_concat_getLast hne).symm
    have hm2 := hm
    rw [e] at hm2
    obtain ⟨_, hm3⟩ := marked_undo hm2
    refine marked_mem _ _ hm3 _ (List.mem_reverse.2 ?_)
    refine List.mem_iff_getElem.2 ⟨i, by rw [List.length_dropLast]; exact hi, ?_⟩
    rw [List.getElem_dropLast]
  have hnow := h.was (m.ms.length - 1) (by omega) hw
  have hS : ∀ k, k ≤ m.ms[m.ms.length - 1] → ((m.hist.take m.ms[m.ms.length - 1] ++ [(m.hist ++ [m.s]).getD m.ms[m.ms.length - 1] m.s]).getD k ((m.hist ++ [m.s]).getD m.ms[m.ms.length - 1] m.s)) = (m.hist ++ [m.s]).getD k m.s := fun k hk => by
    by_cases c : k < m.ms[m.ms.length - 1]
    · generalize (m.hist ++ [m.s]).getD m.ms[m.ms.length - 1] m.s = S
      rw [List.getD_eq_getElem?_getD, List.getElem?_append_left (by rw [List.length_take]; omega), List.getElem?_take, if_pos c, List.getD_eq_getElem?_getD, List.getElem?_append_left (by omega), List.getElem?_eq_getElem (by omega)]; rfl
    · have e : k = m.ms[m.ms.length - 1] := by omega
      rw [List.getD_eq_getElem?_getD, List.getElem?_append_right (by rw [List.length_take]; omega), List.length_take, Nat.min_eq_left hle, ← e, Nat.sub_self]; rfl
  unfold undoM
  rw [hlast]
  refine ⟨hnow, ?_, fun i hi h2 => ?_⟩
  · show was.dropLast.length = m.ms.dropLast.length
    rw [List.length_dropLast, List.length_dropLast, h.len]
  · change i < m.ms.dropLast.length at hi
    have hi' : i < m.ms.length - 1 := by rw [List.length_dropLast] at hi; exact hi
    show StR ((m.hist.take m.ms[m.ms.length - 1] ++ [(m.hist ++ [m.s]).getD m.ms[m.ms.length - 1] m.s]).getD (m.ms.dropLast)[i] ((m.hist ++ [m.s]).getD m.ms[m.ms.length - 1] m.s)) _
    rw [List.getElem_dropLast, List.getElem_dropLast, hS _ (hsort i hi')]
    exact h.was i (by omega) (by rw [h.len]; omega)
/-- A state changed, and perhaps noted. -/
theorem Sync.noted {most : Int} {m : Mach} {now now2 : Cp} {was : List Cp} {s2 : St} (h : Sync m now was) (hm : Marked m.hist.length m.ms.reverse) (hn : StR s2 now2) : Sync (noted most m s2).2 (if tE most m.hist m.ms = 0 then now2 else now) was := by
  unfold Undo.noted tE tH
  by_cases c : m.ms = []
  · simp only [if_pos c, if_true]
    exact ⟨hn, h.len, fun i hi => absurd (show i < m.ms.length from hi) (by rw [c]; simp)⟩
  · simp only [if_neg c]
    by_cases d : (m.hist.length : Int) < most
    · simp only [if_pos d, if_true]
      refine ⟨hn, h.len, fun i hi h2 => ?_⟩
      have hi' : i < m.ms.length := hi
      have hle := marked_at hm i hi'
      have := h.was i hi' h2
      show StR (((m.hist ++ [m.s]) ++ [s2]).getD m.ms[i] s2) _
      rw [List.getD_eq_getElem?_getD] at this ⊢
      rw [List.getElem?_append_left (by simp; omega)]
      rw [List.getElem?_eq_getElem (by simp; omega)] at this ⊢
      exact this
    · simp only [if_neg d, show ¬ (43 : Int) = 0 by decide, if_false]
      exact ⟨h.now, h.len, h.was⟩
end Go.Proofs.Ytibgpkcklneloaa.Undo
