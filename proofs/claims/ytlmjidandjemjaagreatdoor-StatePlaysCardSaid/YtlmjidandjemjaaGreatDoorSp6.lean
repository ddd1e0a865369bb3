/- HandlesPlays, part 6 of 29: the texts SvP, joined by a program. -/
import Derived.Test.YtlmjidandjemjaaGreatDoorSp5
import Derived.Laws.Cover1
import Derived.Sort.Walk0
namespace Go.Proofs.YtlmjidandjemjaaGreatDoor.State
open Go.RowKit Go.Proofs.YtlmjidandjemjaaGreatDoor Go.Proofs.YtlmjidandjemjaaGreatDoor.Hp Go.Proofs.YtlmjidandjemjaaGreatDoor.Undo
set_option linter.unusedVariables false

abbrev Pa (α : Type) := ByteArray × α
def PairsA {α : Type} (M : ByteArray → Option α) (L : List (Pa α)) : Prop := KeysOf M (L.map Prod.fst) ∧ ∀ x ∈ L, M x.1 = some x.2
theorem rising_nd {ks : List ByteArray} (h : Rising ks) : ks.Nodup := h.imp fun {a b} hab e => by rw [e] at hab; exact List.lt_irrefl _ hab
section
variable {α : Type}
/-- x behind k, as the code compares. -/
def behindK (x k : ByteArray) : Bool := !(Op.bytesLess x.toList k.toList || x.toList == k.toList)
theorem toListS_iff (x k : ByteArray) : (x.toList == k.toList) = true ↔ x = k := by
  rw [ByteArray.toList_eq, ByteArray.toList_eq, beq_iff_eq]
  constructor
  · intro h; cases x; cases k; simp at h; rw [h]
  · intro h; rw [h]
theorem toList_ne {x k : ByteArray} (h : x ≠ k) : (x.toList == k.toList) = false := by
  cases e : (x.toList == k.toList) with
  | false => rfl
  | true => exact absurd ((toListS_iff x k).1 e) h
theorem lt_tri {x k : ByteArray} (h : x ≠ k) : x.data.toList < k.data.toList ∨ k.data.toList < x.data.toList := by
  rcases List.le_total x.data.toList k.data.toList with h1 | h1
  · rcases List.le_iff_lt_or_eq.1 h1 with h2 | h2
    · exact .inl h2
    · exact absurd (by cases x; cases k; simp at h2; rw [h2]) h
  · rcases List.le_iff_lt_or_eq.1 h1 with h2 | h2
    · exact .inr h2
    · exact absurd (by cases x; cases k; simp at h2; rw [h2]) h
theorem behindK_iff (x k : ByteArray) : behindK x k = true ↔ k.data.toList < x.data.toList := by
  unfold behindK
  rw [Go.Proofs.bytesLess_eq, ByteArray.toList_eq, ByteArray.toList_eq]
  constructor
  · intro h
    simp only [Bool.not_eq_true', Bool.or_eq_false_iff, decide_eq_false_iff_not, beq_eq_false_iff_ne] at h
    have hne : x ≠ k := fun e => h.2 (by rw [e])
    exact (lt_tri hne).resolve_left h.1
  · intro h
    simp only [Bool.not_eq_true', Bool.or_eq_false_iff, decide_eq_false_iff_not, beq_eq_false_iff_ne]
    exact ⟨fun h2 => List.lt_irrefl _ (List.lt_trans h h2), fun e => by rw [e] at h; exact List.lt_irrefl _ h⟩
/-- The pairs of other keys. -/
def without (k : ByteArray) (L : List (Pa α)) : List (Pa α) := L.filter fun x => !(x.1.toList == k.toList)
theorem without_snoc (k : ByteArray) (L : List (Pa α)) (x : Pa α) : without k (L ++ [x]) = without k L ++ (if (x.1.toList == k.toList) = true then [] else [x]) := by
  unfold without
  rw [List.filter_append]
  congr 1
  cases h : (x.1.toList == k.toList) <;> simp [h]
theorem without_mem {k : ByteArray} {L : List (Pa α)} {x : Pa α} : x ∈ without k L ↔ x ∈ L ∧ x.1 ≠ k := by
  unfold without
  rw [List.mem_filter]
  refine and_congr_right fun _ => ?_
  rw [Bool.not_eq_true', ← Bool.not_eq_true, toListS_iff]
theorem without_pairs {M : ByteArray → Option α} {L : List (Pa α)} (h : PairsA M L) (k : ByteArray) : PairsA (delM M k) (without k L) := by
  have hks : (without k L).map Prod.fst = (L.map Prod.fst).filter fun s => !(s.toList == k.toList) := by
    unfold without
    rw [List.filter_map]
    rfl
  refine ⟨⟨?_, fun s => ?_⟩, fun x hx => ?_⟩
  · rw [hks]
    exact List.Pairwise.filter _ h.1.1
  · rw [List.mem_map]
    unfold delM
    constructor
    · rintro ⟨x, hx, rfl⟩
      obtain ⟨h1, h2⟩ := without_mem.1 hx
      rw [if_neg h2]
      exact (h.1.2 x.1).1 (List.mem_map.2 ⟨x, h1, rfl⟩)
    · intro hs
      by_cases c : s = k
      · rw [if_pos c] at hs; cases hs
      · rw [if_neg c] at hs
        obtain ⟨x, h1, rfl⟩ := List.mem_map.1 ((h.1.2 s).2 hs)
        exact ⟨x, without_mem.2 ⟨h1, c⟩, rfl⟩
  · obtain ⟨h1, h2⟩ := without_mem.1 hx
    unfold delM
    rw [if_neg h2]
    exact h.2 x h1
/-- A pair laid in its place. -/
def insP (k : ByteArray) (v : α) : List (Pa α) → List (Pa α)
  | [] => [(k, v)]
  | x :: l => if behindK x.1 k = true then (k, v) :: x :: l else x :: insP k v l
theorem ins_mem {k : ByteArray} {v : α} {l : List (Pa α)} {x : Pa α} : x ∈ insP k v l ↔ x = (k, v) ∨ x ∈ l := by
  induction l with
  | nil => simp [insP]
  | cons y l ih =>
    unfold insP
    by_cases c : behindK y.1 k = true
    · rw [if_pos c, List.mem_cons]
    · rw [if_neg c, List.mem_cons, ih, List.mem_cons]
      constructor
      · rintro (h | h | h)
        · exact .inr (.inl h)
        · exact .inl h
        · exact .inr (.inr h)
      · rintro (h | h | h)
        · exact .inr (.inl h)
        · exact .inl h
        · exact .inr (.inr h)
theorem ins_rising {k : ByteArray} {v : α} {l : List (Pa α)} (h : Rising (l.map Prod.fst)) (hk : ∀ x ∈ l, x.1 ≠ k) : Rising ((insP k v l).map Prod.fst) := by
  induction l with
  | nil => exact List.pairwise_singleton _ _
  | cons y l ih =>
    have h1 : (∀ z ∈ l.map Prod.fst, y.1.data.toList < z.data.toList) ∧ Rising (l.map Prod.fst) := List.pairwise_cons.1 h
    unfold insP
    by_cases c : behindK y.1 k = true
    · rw [if_pos c]
      have c' := (behindK_iff y.1 k).1 c
      refine List.pairwise_cons.2 ⟨fun z hz => ?_, h⟩
      rcases List.mem_cons.1 hz with rfl | hz
      · exact c'
      · exact List.lt_trans c' (h1.1 z hz)
    · rw [if_neg c]
      have c2 := (lt_tri (hk y (List.mem_cons_self ..))).resolve_right fun h => c ((behindK_iff y.1 k).2 h)
      refine List.pairwise_cons.2 ⟨fun z hz => ?_, ih h1.2 fun x hx => hk x (List.mem_cons_of_mem _ hx)⟩
      obtain ⟨x, hx, rfl⟩ := List.mem_map.1 hz
      rcases ins_mem.1 hx with rfl | hx
      · exact c2
      · exact h1.1 _ (List.mem_map.2 ⟨x, hx, rfl⟩)
theorem ins_pairs {M : ByteArray → Option α} {L : List (Pa α)} (h : PairsA M L) (k : ByteArray) (v : α) : PairsA (putM M k v) (insP k v (without k L)) := by
  have h2 := without_pairs h k
  refine ⟨⟨ins_rising h2.1.1 fun x hx => (without_mem.1 hx).2, fun s => ?_⟩, fun x hx => ?_⟩
  · rw [List.mem_map]
    unfold putM
    constructor
    · rintro ⟨x, hx, rfl⟩
      rcases ins_mem.1 hx with rfl | hx
      · rw [if_pos rfl]; rfl
      · obtain ⟨h3, h4⟩ := without_mem.1 hx
        rw [if_neg h4]
        exact (h.1.2 x.1).1 (List.mem_map.2 ⟨x, h3, rfl⟩)
    · intro hs
      by_cases c : s = k
      · exact ⟨(k, v), ins_mem.2 (.inl rfl), c.symm⟩
      · rw [if_neg c] at hs
        obtain ⟨x, h3, rfl⟩ := List.mem_map.1 ((h.1.2 s).2 hs)
        exact ⟨x, ins_mem.2 (.inr (without_mem.2 ⟨h3, c⟩)), rfl⟩
  · unfold putM
    rcases ins_mem.1 hx with rfl | hx
    · rw [if_pos rfl]
    · obtain ⟨h3, h4⟩ := without_mem.1 hx
      rw [if_neg h4]
      exact h.2 x h3
theorem without_len (k : ByteArray) (L : List (Pa α)) : (without k L).length ≤ L.length := List.length_filter_le ..
theorem ins_len (k : ByteArray) (v : α) (L : List (Pa α)) : (insP k v L).length = L.length + 1 := by
  induction L with
  | nil => rfl
  | cons x l ih =>
    unfold insP
    split
    · rfl
    · rw [List.length_cons, ih]; rfl
theorem look_some {M : ByteArray → Option α} {L : List (Pa α)} (h : PairsA M L) {k : ByteArray} {v : α} (hk : M k = some v) : ∃ j, ∃ hj : j < L.length, L[j].1 = k ∧ L[j].2 = v ∧ ∀ i (hi : i < L.length), i ≠ j → L[i].1 ≠ k := by
  have h1 : k ∈ L.map Prod.fst := (h.1.2 k).2 (by rw [hk]; rfl)
  obtain ⟨x, hx, rfl⟩ := List.mem_map.1 h1
  obtain ⟨j, hj, rfl⟩ := List.mem_iff_getElem.1 hx
  refine ⟨j, hj, rfl, ?_, fun i hi hne e => ?_⟩
  · have := h.2 _ hx; rw [hk] at this; simpa using this.symm
  · have hnd : (L.map Prod.fst).Nodup := rising_nd h.1.1
    have := (List.getElem_inj (xs := L.map Prod.fst) (i := i) (j := j) (h₀ := by rw [List.length_map]; exact hi) (h₁ := by rw [List.length_map]; exact hj) hnd).1 (by simpa using e)
    exact hne this
/-- x not ahead of k, as the code compares. -/
def geK (x k : ByteArray) : Bool := !(Op.bytesLess x.toList k.toList)
theorem geK_iff (x k : ByteArray) : geK x k = true ↔ (x = k ∨ k.data.toList < x.data.toList) := by
  unfold geK
  rw [Go.Proofs.bytesLess_eq, ByteArray.toList_eq, ByteArray.toList_eq]
  simp only [Bool.not_eq_true', decide_eq_false_iff_not]
  constructor
  · intro h
    by_cases e : x = k
    · exact .inl e
    · exact .inr ((lt_tri e).resolve_left h)
  · rintro (rfl | h) h2
    · exact List.lt_irrefl _ h2
    · exact List.lt_irrefl _ (List.lt_trans h h2)
/-- What the document's put makes of a row: a thing in the place of one of its name. -/
def putR (k : ByteArray) (v : α) : List (Pa α) → Bool → List (Pa α)
  | [], true => []
  | [], false => [(k, v)]
  | x :: l, true => (if (x.1.toList == k.toList) = true then [] else [x]) ++ putR k v l true
  | x :: l, false => if geK x.1 k = true then (k, v) :: ((if (x.1.toList == k.toList) = true then [] else [x]) ++ putR k v l true) else (if (x.1.toList == k.toList) = true then [] else [x]) ++ putR k v l false
theorem without_cons (k : ByteArray) (x : Pa α) (L : List (Pa α)) : without k (x :: L) = (if (x.1.toList == k.toList) = true then [] else [x]) ++ without k L := by
  unfold without
  rw [List.filter_cons]
  cases h : (x.1.toList == k.toList) <;> simp
theorem putR_true (k : ByteArray) (v : α) : ∀ L : List (Pa α), putR k v L true = without k L
  | [] => rfl
  | x :: l => by rw [without_cons]; show _ ++ putR k v l true = _; rw [putR_true k v l]
theorem ins_behind {k : ByteArray} {v : α} {L : List (Pa α)} (h : ∀ x ∈ L, k.data.toList < x.1.data.toList) : insP k v L = (k, v) :: L := by
  cases L with
  | nil => rfl
  | cons x l =>
    unfold insP
    rw [if_pos ((behindK_iff x.1 k).2 (h x List.mem_cons_self))]
theorem putR_false (k : ByteArray) (v : α) : ∀ L : List (Pa α), Rising (L.map Prod.fst) → putR k v L false = insP k v (without k L)
  | [], _ => rfl
  | x :: l, h => by
    have h1 : (∀ z ∈ l.map Prod.fst, x.1.data.toList < z.data.toList) ∧ Rising (l.map Prod.fst) := List.pairwise_cons.1 h
    have hb : ∀ y ∈ without k l, x.1.data.toList < y.1.data.toList := fun y hy => h1.1 _ (List.mem_map.2 ⟨y, (without_mem.1 hy).1, rfl⟩)
    rw [without_cons]
    show (if geK x.1 k = true then (k, v) :: ((if (x.1.toList == k.toList) = true then [] else [x]) ++ putR k v l true) else (if (x.1.toList == k.toList) = true then [] else [x]) ++ putR k v l false) = _
    by_cases e : x.1 = k
    · have e1 : (x.1.toList == k.toList) = true := (toListS_iff _ _).2 e
      rw [if_pos ((geK_iff x.1 k).2 (.inl e)), if_pos e1, putR_true, List.nil_append, ins_behind fun y hy => by rw [← e]; exact hb y hy]
    · have e1 : ¬ (x.1.toList == k.toList) = true := fun e2 => e ((toListS_iff _ _).1 e2)
      rw [if_neg e1]
      by_cases g : geK x.1 k = true
      · have hlt := ((geK_iff x.1 k).1 g).resolve_left e
        rw [if_pos g, putR_true]
        rw [ins_behind (L := [x] ++ without k l) fun y hy => by
          rcases List.mem_append.1 hy with hy | hy
          · rw [List.mem_singleton] at hy; rw [hy]; exact hlt
          · exact List.lt_trans hlt (hb y hy)]
      · rw [if_neg g, putR_false k v l h1.2]
        have hbn : ¬ behindK x.1 k = true := fun hbk => g ((geK_iff x.1 k).2 (.inr ((behindK_iff x.1 k).1 hbk)))
        show x :: insP k v (without k l) = insP k v (x :: without k l)
        conv => rhs; unfold insP
        rw [if_neg hbn]
/-- Things of names, in whatever order. -/
structure BagOf (M : ByteArray → Option α) (L : List (Pa α)) : Prop where
  nd : (L.map Prod.fst).Nodup
  has : ∀ x ∈ L, M x.1 = some x.2
  all : ∀ k v, M k = some v → (k, v) ∈ L
theorem bag_nil : BagOf (fun _ => none) ([] : List (Pa α)) := ⟨List.nodup_nil, fun x h => (by cases h), fun k v h => (by cases h)⟩
theorem bag_del {M : ByteArray → Option α} {L : List (Pa α)} (h : BagOf M L) (k : ByteArray) : BagOf (delM M k) (without k L) where
  nd := by
    have : (without k L).map Prod.fst = (L.map Prod.fst).filter fun s => !(s.toList == k.toList) := by unfold without; rw [List.filter_map]; rfl
    rw [this]; exact List.Pairwise.filter _ h.nd
  has x hx := by
    obtain ⟨h1, h2⟩ := without_mem.1 hx
    unfold delM; rw [if_neg h2]; exact h.has x h1
  all s v hs := by
    unfold delM at hs
    by_cases c : s = k
    · rw [if_pos c] at hs; cases hs
    · rw [if_neg c] at hs; exact without_mem.2 ⟨h.all s v hs, c⟩
theorem bag_put {M : ByteArray → Option α} {L : List (Pa α)} (h : BagOf M L) (k : ByteArray) (v : α) : BagOf (putM M k v) (without k L ++ [(k, v)]) where
  nd := by
    rw [List.map_append, List.nodup_append]
    refine ⟨(bag_del h k).nd, by simp, fun a ha b hb e => ?_⟩
    obtain ⟨x, hx, rfl⟩ := List.mem_map.1 ha
    simp only [List.map_cons, List.map_nil, List.mem_singleton] at hb
    exact (without_mem.1 hx).2 (by rw [e, hb])
  has x hx := by
    unfold putM
    rcases List.mem_append.1 hx with hx | hx
    · obtain ⟨h1, h2⟩ := without_mem.1 hx
      rw [if_neg h2]; exact h.has x h1
    · rw [List.mem_singleton] at hx; rw [hx, if_pos rfl]
  all s w hs := by
    unfold putM at hs
    by_cases c : s = k
    · rw [if_pos c] at hs; injection hs with hs; rw [c, hs]; exact List.mem_append.2 (.inr List.mem_cons_self)
    · rw [if_neg c] at hs; exact List.mem_append.2 (.inl (without_mem.2 ⟨h.all s w hs, c⟩))
theorem bag_none {M : ByteArray → Option α} {L : List (Pa α)} (h : BagOf M L) {k : ByteArray} (hk : M k = none) : ∀ x ∈ L, x.1 ≠ k := by
  rintro x hx rfl
  rw [h.has x hx] at hk; cases hk
theorem bag_some {M : ByteArray → Option α} {L : List (Pa α)} (h : BagOf M L) {k : ByteArray} {v : α} (hk : M k = some v) : ∃ j, ∃ hj : j < L.length, L[j].1 = k ∧ L[j].2 = v ∧ ∀ i (hi : i < L.length), i ≠ j → L[i].1 ≠ k := by
  obtain ⟨j, hj, e⟩ := List.mem_iff_getElem.1 (h.all k v hk)
  refine ⟨j, hj, by rw [e], by rw [e], fun i hi hne e2 => ?_⟩
  have := (List.getElem_inj (xs := L.map Prod.fst) (i := i) (j := j) (h₀ := by rw [List.length_map]; exact hi) (h₁ := by rw [List.length_map]; exact hj) h.nd).1 (by rw [List.getElem_map, List.getElem_map, e2, e])
  exact hne this
theorem pairs_bag {M : ByteArray → Option α} {L : List (Pa α)} (h : PairsA M L) : BagOf M L where
  nd := rising_nd h.1.1
  has := h.2
  all k v hk := by
    obtain ⟨j, hj, e1, e2, _⟩ := look_some h hk
    refine List.mem_iff_getElem.2 ⟨j, hj, ?_⟩
    rw [← e1, ← e2]
end
end Go.Proofs.YtlmjidandjemjaaGreatDoor.State

