/- Plain: the longest rows of one kind, and what Part's parts are. -/
import Derived.Test.YtlpfcnpdecoblaaDoorMkE
namespace Go.Proofs.YtlpfcnpdecoblaaDoor.Marks
open Go.RowKit Go.Proofs.YtlpfcnpdecoblaaDoor Go.Proofs.YtlpfcnpdecoblaaDoor.Hp
set_option linter.unusedVariables false

/-- The longest rows of bytes of one kind. -/
def runL : List Ch → List (List UInt8 × Bool)
  | [] => []
  | x :: t => match runL t with
    | [] => [([x.b], x.q)]
    | (u, q) :: r => if q = x.q then (x.b :: u, q) :: r else ([x.b], x.q) :: (u, q) :: r
theorem runL_cons (x : Ch) (t : List Ch) : runL (x :: t) = match runL t with
    | [] => [([x.b], x.q)]
    | (u, q) :: r => if q = x.q then (x.b :: u, q) :: r else ([x.b], x.q) :: (u, q) :: r := rfl
theorem runL_head (x : Ch) (t : List Ch) : ∃ u r, runL (x :: t) = (u, x.q) :: r ∧ u ≠ [] := by
  rw [runL_cons]
  match runL t with
  | [] => exact ⟨_, _, rfl, by simp⟩
  | (u, q) :: r =>
    show ∃ u' r', (if q = x.q then (x.b :: u, q) :: r else ([x.b], x.q) :: (u, q) :: r) = (u', x.q) :: r' ∧ u' ≠ []
    by_cases h : q = x.q
    · rw [if_pos h, h]; exact ⟨_, _, rfl, by simp⟩
    · rw [if_neg h]; exact ⟨_, _, rfl, by simp⟩
theorem runL_ne (x : Ch) (t : List Ch) : runL (x :: t) ≠ [] := by
  obtain ⟨u, r, h, _⟩ := runL_head x t
  rw [h]; simp
theorem runL_cut {q : Bool} (u v : List Ch) (hu : u ≠ []) (hq : ∀ x ∈ u, x.q = q) (hv : ∀ y, v.head? = some y → y.q ≠ q) : runL (u ++ v) = (u.map (·.b), q) :: runL v := by
  induction u with
  | nil => exact absurd rfl hu
  | cons x u ih =>
    have hx := hq x (List.mem_cons_self ..)
    rw [List.cons_append, runL_cons]
    by_cases hn : u = []
    · subst hn
      rw [List.nil_append]
      cases v with
      | nil => rw [hx.symm]; rfl
      | cons y v =>
        obtain ⟨u', r, h, _⟩ := runL_head y v
        rw [h]
        have hy := hv y rfl
        show (if y.q = x.q then _ else _) = _
        rw [if_neg (by rw [hx]; exact hy), hx]; rfl
    · rw [ih hn fun y hy => hq y (List.mem_cons_of_mem _ hy)]
      show (if q = x.q then _ else _) = _
      rw [if_pos hx.symm]; rfl
/-- A run's bytes, marked. -/
def runC (x : List UInt8 × Bool) : List Ch := x.1.map (⟨·, x.2⟩)
theorem run_join (t : List Ch) : (runL t).flatMap runC = t := by
  induction t with
  | nil => rfl
  | cons x t ih =>
    rw [runL_cons]
    match h : runL t, ih with
    | [], ih => rw [← ih]; rfl
    | (u, q) :: r, ih =>
      show (if q = x.q then _ else _ : List (List UInt8 × Bool)).flatMap runC = _
      by_cases e : q = x.q
      · rw [if_pos e, ← ih]
        show (x.b :: u).map (fun b => (⟨b, q⟩ : Ch)) ++ _ = _
        rw [e]; rfl
      · rw [if_neg e, ← ih]; rfl
theorem run_text (t : List Ch) : ∀ x ∈ runL t, x.1 ≠ [] := by
  induction t with
  | nil => intro x hx; cases hx
  | cons x t ih =>
    rw [runL_cons]
    match h : runL t, ih with
    | [], ih => intro y hy; rw [List.mem_singleton] at hy; rw [hy]; simp
    | (u, q) :: r, ih =>
      show ∀ y ∈ (if q = x.q then _ else _ : List (List UInt8 × Bool)), _
      by_cases e : q = x.q
      · rw [if_pos e]
        intro y hy
        rcases List.mem_cons.1 hy with rfl | hy
        · simp
        · exact ih y (List.mem_cons_of_mem _ hy)
      · rw [if_neg e]
        intro y hy
        rcases List.mem_cons.1 hy with rfl | hy
        · simp
        · exact ih y hy
/-- No two neighbours are of one kind. -/
def turns : List (List UInt8 × Bool) → Bool
  | [] => true
  | [_] => true
  | x :: y :: r => (x.2 != y.2) && turns (y :: r)
theorem run_turns (t : List Ch) : turns (runL t) = true := by
  induction t with
  | nil => rfl
  | cons x t ih =>
    rw [runL_cons]
    match h : runL t, ih with
    | [], ih => rfl
    | (u, q) :: r, ih =>
      show turns (if q = x.q then _ else _ : List (List UInt8 × Bool)) = true
      by_cases e : q = x.q
      · rw [if_pos e]
        cases r with
        | nil => rfl
        | cons y r => exact ih
      · rw [if_neg e]
        show ((x.q != q) && turns ((u, q) :: r)) = true
        rw [ih, Bool.and_true]
        simpa using fun e' => e e'.symm
theorem turns_at (l : List (List UInt8 × Bool)) (h : turns l = true) (i : Nat) (hi : i + 1 < l.length) : (l[i].2 == l[i + 1].2) = false := by
  induction l generalizing i with
  | nil => simp at hi
  | cons x l ih =>
    cases l with
    | nil => simp at hi
    | cons y r =>
      have h' : ((x.2 != y.2) && turns (y :: r)) = true := h
      rw [Bool.and_eq_true] at h'
      cases i with
      | zero => simpa using h'.1
      | succ i => exact ih h'.2 i (by simpa using hi)
theorem run_len (t : List Ch) : (runL t).length ≤ t.length := by
  induction t with
  | nil => exact Nat.le_refl _
  | cons x t ih =>
    rw [runL_cons]
    match h : runL t, ih with
    | [], ih => simp
    | (u, q) :: r, ih =>
      show (if q = x.q then _ else _ : List (List UInt8 × Bool)).length ≤ _
      by_cases e : q = x.q
      · rw [if_pos e]; simp at ih ⊢; omega
      · rw [if_neg e]; simp at ih ⊢; omega
/-- No part has the byte bare. -/
theorem part_free (b : UInt8) (t : List Ch) : ∀ l ∈ partL b t, ∀ x ∈ l, ((⟨b, false⟩ : Ch) == x) = false := by
  induction t with
  | nil => intro l hl x hx; rw [List.mem_singleton.1 hl] at hx; cases hx
  | cons y t ih =>
    rw [partL_cons]
    by_cases e : ((⟨b, false⟩ : Ch) == y) = true
    · rw [if_pos e]
      intro l hl
      rcases List.mem_cons.1 hl with rfl | hl
      · intro x hx; cases hx
      · exact ih l hl
    · rw [if_neg e]
      have e2 : ((⟨b, false⟩ : Ch) == y) = false := by simpa using e
      match h : partL b t, ih with
      | [], _ => intro l hl x hx; rw [List.mem_singleton.1 hl, List.mem_singleton] at hx; rw [hx]; exact e2
      | l0 :: ls, ih =>
        intro l hl
        rcases List.mem_cons.1 hl with rfl | hl
        · intro x hx
          rcases List.mem_cons.1 hx with rfl | hx
          · exact e2
          · exact ih l0 (List.mem_cons_self ..) x hx
        · exact ih l (List.mem_cons_of_mem _ hl)
/-- Parts, with the byte between each two. -/
def accP (b : UInt8) : List (List Ch) → List Ch
  | [] => []
  | l :: ls => l ++ ls.flatMap (⟨b, false⟩ :: ·)
theorem accP_snoc (b : UInt8) (P : List (List Ch)) (l : List Ch) (h : P ≠ []) : accP b (P ++ [l]) = accP b P ++ ⟨b, false⟩ :: l := by
  cases P with
  | nil => exact absurd rfl h
  | cons p P =>
    show p ++ (P ++ [l]).flatMap _ = (p ++ P.flatMap _) ++ _
    rw [List.flatMap_append, List.append_assoc]
    show _ = p ++ (P.flatMap _ ++ _)
    simp
theorem part_join (b : UInt8) (t : List Ch) : accP b (partL b t) = t := by
  induction t with
  | nil => rfl
  | cons y t ih =>
    rw [partL_cons]
    have hne := partL_ne b t
    by_cases e : ((⟨b, false⟩ : Ch) == y) = true
    · rw [if_pos e]
      match h : partL b t, hne, ih with
      | [], hne, _ => exact absurd rfl hne
      | l0 :: ls, _, ih =>
        rw [← ih, ← eq_of_beq e]
        show [] ++ (l0 :: ls).flatMap _ = _
        rfl
    · rw [if_neg e]
      match h : partL b t, hne, ih with
      | [], hne, _ => exact absurd rfl hne
      | l0 :: ls, _, ih =>
        rw [← ih]; rfl
theorem part_total (b : UInt8) (t : List Ch) : (partL b t).length ≤ t.length + 1 := by
  induction t with
  | nil => exact Nat.le_refl _
  | cons y t ih =>
    rw [partL_cons]
    by_cases e : ((⟨b, false⟩ : Ch) == y) = true
    · rw [if_pos e]; simp; omega
    · rw [if_neg e]
      match h : partL b t, ih with
      | [], _ => simp
      | l0 :: ls, ih => simp at ih ⊢; omega
theorem part_each (b : UInt8) (t : List Ch) : ∀ l ∈ partL b t, l.length ≤ t.length := by
  induction t with
  | nil => intro l hl; rw [List.mem_singleton.1 hl]; exact Nat.le_refl _
  | cons y t ih =>
    rw [partL_cons]
    by_cases e : ((⟨b, false⟩ : Ch) == y) = true
    · rw [if_pos e]
      intro l hl
      rcases List.mem_cons.1 hl with rfl | hl
      · exact Nat.zero_le _
      · have := ih l hl; simp; omega
    · rw [if_neg e]
      match h : partL b t, ih with
      | [], _ => intro l hl; rw [List.mem_singleton.1 hl]; simp
      | l0 :: ls, ih =>
        intro l hl
        rcases List.mem_cons.1 hl with rfl | hl
        · have := ih l0 (List.mem_cons_self ..); simp; omega
        · have := ih l (List.mem_cons_of_mem _ hl); simp; omega
end Go.Proofs.YtlpfcnpdecoblaaDoor.Marks
