/- A table of handles in memory; get, add walked. -/
import Derived.Test.YtljlpkeddbfpaaaGreatDoorHdH
namespace Go.Proofs.YtljlpkeddbfpaaaGreatDoor.Hd
open Go.RowKit Go.Maps Go.Proofs.YtljlpkeddbfpaaaGreatDoor Go.Proofs.YtljlpkeddbfpaaaGreatDoor.Hp
set_option linter.unusedVariables false
attribute [local go_sem] Oper.semAt_some

section
variable {α : Type}
def findA : List (Int × α) → Int → Option α
  | [], _ => none
  | p :: L, k => if p.1 = k then some p.2 else findA L k
def updA : List (Int × α) → Int → α → List (Int × α)
  | [], _, _ => []
  | p :: L, k, x => if p.1 = k then (k, x) :: L else p :: updA L k x
def delA : List (Int × α) → Int → List (Int × α)
  | [], _ => []
  | p :: L, k => if p.1 = k then L else p :: delA L k
theorem focusA (P : α → Hp) : ∀ (L : List (Int × α)) (k : Int) (x : α), findA L k = some x → ∃ F : Hp, all (fun p : Int × α => P p.2) L = P x * F ∧ (∀ x', all (fun p : Int × α => P p.2) (updA L k x') = P x' * F) ∧ all (fun p : Int × α => P p.2) (delA L k) = F
  | [], k, x, h => by cases h
  | p :: L, k, x, h => by
    unfold findA at h
    by_cases e : p.1 = k
    · rw [if_pos e] at h
      injection h with h
      refine ⟨all (fun p : Int × α => P p.2) L, by rw [← h]; rfl, fun x' => by unfold updA; rw [if_pos e]; rfl, by unfold delA; rw [if_pos e]⟩
    · rw [if_neg e] at h
      obtain ⟨F, h1, h2, h3⟩ := focusA P L k x h
      refine ⟨P p.2 * F, ?_, fun x' => ?_, ?_⟩
      · show P p.2 * all (fun p : Int × α => P p.2) L = _
        rw [h1]; ac_rfl
      · unfold updA; rw [if_neg e]
        show P p.2 * all (fun p : Int × α => P p.2) (updA L k x') = _
        rw [h2 x']; ac_rfl
      · unfold delA; rw [if_neg e]
        show P p.2 * all (fun p : Int × α => P p.2) (delA L k) = _
        rw [h3]
theorem findA_upd : ∀ (L : List (Int × α)) (k j : Int) (x : α), (findA L k).isSome = true → findA (updA L k x) j = if j = k then some x else findA L j
  | [], _, _, _, h => by cases h
  | p :: L, k, j, x, h => by
    unfold findA at h
    by_cases e : p.1 = k
    · unfold updA; rw [if_pos e]
      show (if k = j then some x else findA L j) = if j = k then some x else (if p.1 = j then some p.2 else findA L j)
      by_cases e2 : j = k
      · subst e2; simp
      · rw [if_neg e2, if_neg (fun h => e2 h.symm), if_neg (fun h => e2 (by rw [← h, e]))]
    · rw [if_neg e] at h
      unfold updA; rw [if_neg e]; unfold findA
      by_cases e2 : p.1 = j
      · rw [if_pos e2, if_neg (fun h => e (by rw [e2, h])), if_pos e2]
      · rw [if_neg e2, findA_upd L k j x h, if_neg e2]
theorem updA_len : ∀ (L : List (Int × α)) (k : Int) (x : α), (updA L k x).length = L.length
  | [], _, _ => rfl
  | p :: L, k, x => by
    unfold updA
    split
    · rfl
    · show (updA L k x).length + 1 = _; rw [updA_len L k x]; rfl
theorem findA_cons (L : List (Int × α)) (k j : Int) (x : α) : findA ((k, x) :: L) j = if j = k then some x else findA L j := by
  show (if k = j then some x else findA L j) = _
  by_cases e : j = k
  · subst e; simp
  · rw [if_neg e, if_neg (fun h => e h.symm)]
theorem findA_mem : ∀ (L : List (Int × α)) (k : Int), (findA L k).isSome = true → k ∈ L.map Prod.fst
  | [], k, h => by cases h
  | p :: L, k, h => by
    unfold findA at h
    by_cases e : p.1 = k
    · rw [← e]; exact List.mem_cons_self
    · rw [if_neg e] at h; exact List.mem_cons_of_mem _ (findA_mem L k h)
theorem len_subset' : ∀ (l L : List Int), l.Pairwise (· ≠ ·) → (∀ x ∈ l, x ∈ L) → l.length ≤ L.length
  | [], _, _, _ => Nat.zero_le _
  | x :: l, L, hp, hs => by
    have h1 : x ∈ L := hs x List.mem_cons_self
    have h2 := len_subset' l (L.erase x) (List.Pairwise.of_cons hp) (fun y hy => by
      refine (List.mem_erase_of_ne ?_).2 (hs y (List.mem_cons_of_mem _ hy))
      exact fun e => (List.rel_of_pairwise_cons hp hy) e.symm)
    rw [List.length_erase_of_mem h1] at h2
    have := List.length_pos_of_mem h1
    show l.length + 1 ≤ _
    omega
/-- The least number from 1 on that is free. -/
theorem free_number (L : List (Int × α)) : ∃ g : Nat, 1 ≤ g ∧ g ≤ L.length + 1 ∧ findA L (g : Int) = none ∧ ∀ j : Nat, 1 ≤ j → j < g → (findA L (j : Int)).isSome = true := by
  have go : ∀ m : Nat, (∀ j : Nat, 1 ≤ j → j < m + 1 → (findA L (j : Int)).isSome = true) → m ≤ L.length := by
    intro m hm
    have := len_subset' ((List.range m).map fun i : Nat => ((i + 1 : Nat) : Int)) (L.map Prod.fst) (by
      rw [List.pairwise_map]
      exact (List.nodup_range (n := m)).imp fun h e => h (by omega)) (fun x hx => by
      obtain ⟨i, hi, rfl⟩ := List.mem_map.1 hx
      exact findA_mem L _ (hm (i + 1) (by omega) (by have := List.mem_range.1 hi; omega)))
    simpa using this
  have ex : ∀ f m : Nat, L.length + 1 - m ≤ f → (∀ j : Nat, 1 ≤ j → j < m + 1 → (findA L (j : Int)).isSome = true) → ∃ g : Nat, 1 ≤ g ∧ g ≤ L.length + 1 ∧ findA L (g : Int) = none ∧ ∀ j : Nat, 1 ≤ j → j < g → (findA L (j : Int)).isSome = true := by
    intro f
    induction f with
    | zero =>
      intro m hf hm
      have := go m hm
      omega
    | succ f ih =>
      intro m hf hm
      have hle := go m hm
      cases hc : findA L ((m + 1 : Nat) : Int) with
      | none => exact ⟨m + 1, by omega, by omega, hc, hm⟩
      | some x =>
        refine ih (m + 1) (by omega) (fun j h1 h2 => ?_)
        by_cases e : j = m + 1
        · subst e; rw [hc]; rfl
        · exact hm j h1 (by omega)
  exact ex (L.length + 1) 0 (by omega) (fun j h1 h2 => absurd h2 (by omega))
end
/-- What a handle is of. -/
inductive Th where
  | file (n : Int) (a : Nat) (m : Md)
  | text (s : ByteArray) (a : Nat)
  | reader (bb eb : Nat)
  | writer (bb eb : Nat)
  | sink (sp q : Option Addr) (cap : Nat) (l : List UInt8) (most : Nat)
/-- A handle: its block, its refs, the block of its thing, the thing. -/
structure Hn where
  b : Nat
  refs : Int
  xb : Nat
  t : Th
def thT : Th → TypeId
  | .file .. => 83
  | .text .. => 105
  | .reader .. => 110
  | .writer .. => 114
  | .sink .. => 116
def thO (fb : Nat) : Th → Obj
  | .file n a m => flO fb n a m
  | .text s a => .cells #[.string s, .int .i64 (a : Int)] 107 (0, 0)
  | .reader bb eb => .cells #[pp bb, pp eb] 113 (0, 0)
  | .writer bb eb => .cells #[pp bb, pp eb] 115 (0, 0)
  | .sink sp q cap l most => .cells #[.pointer sp, .slice q l.length cap, .int .i64 (most : Int)] 122 (0, 0)
abbrev hnO (x : Hn) : Obj := .cells #[.int .i64 x.refs, .iface (thT x.t) (pp x.xb)] 92 (0, 0)
def hnHp (fb : Nat) (x : Hn) : Hp := pts x.b (hnO x) * pts x.xb (thO fb x.t)
abbrev tbO (fb pb hm : Nat) : Obj := .cells #[pp fb, pp pb, .map (some hm)] 81 (0, 0)
abbrev HL := List (Int × Hn)
def hblk (L : HL) : Int → Option Nat := fun k => (findA L k).map Hn.b
def tabHp (tb fb pb hm : Nat) (L : HL) (n : Nat) : Hp := pts tb (tbO fb pb hm) * (pmap hm (hblk L) L.length n * all (fun p : Int × Hn => hnHp fb p.2) L)
theorem tab_cells {w : World} {tb fb pb hm n : Nat} {L : HL} {R : Hp} (h : Sat w (tabHp tb fb pb hm L n * R)) : w.cell? ⟨tb, 0, none⟩ = some (pp fb) ∧ w.cell? ⟨tb, 1, none⟩ = some (pp pb) ∧ w.cell? ⟨tb, 2, none⟩ = some (.map (some hm)) := by
  have hb := (h.perm (show _ = pts tb (tbO fb pb hm) * (pmap hm (hblk L) L.length n * all (fun p : Int × Hn => hnHp fb p.2) L * R) by unfold tabHp; ac_rfl)).get
  refine ⟨?_, ?_, ?_⟩ <;> rw [cell_at hb] <;> rfl
theorem tab_look {w : World} {tb fb pb hm n : Nat} {L : HL} {R : Hp} (h : Sat w (tabHp tb fb pb hm L n * R)) (k : Int) (hk : I64 k) : (Instr.lookup 79 (.map (some hm)) (.int .i64 k) false).run Tryz.prog w = .ok (pv (hblk L k)) w :=
  pmap_look Tryz.underlying79 zeroHandle (h.perm (show _ = pmap hm (hblk L) L.length n * (pts tb (tbO fb pb hm) * all (fun p : Int × Hn => hnHp fb p.2) L * R) by unfold tabHp; ac_rfl)) k hk
theorem hblk_upd (L : HL) (k : Int) (x x' : Hn) (h : findA L k = some x) (hb : x'.b = x.b) : hblk (updA L k x') = hblk L := by
  funext j
  unfold hblk
  rw [findA_upd L k j x' (by rw [h]; rfl)]
  by_cases e : j = k
  · subst e; rw [if_pos rfl, h]; simp [hb]
  · rw [if_neg e]
/-- One handle, and how another one takes its place. -/
theorem tab_node {w : World} {tb fb pb hm n : Nat} {L : HL} {R : Hp} (h : Sat w (tabHp tb fb pb hm L n * R)) {k : Int} {x : Hn} (hx : findA L k = some x) :
    ∃ X : Hp, Sat w (pts x.b (hnO x) * (pts x.xb (thO fb x.t) * (X * R))) ∧
      ∀ (w' : World) (x' : Hn) (R' : Hp), x'.b = x.b → Sat w' (pts x'.b (hnO x') * (pts x'.xb (thO fb x'.t) * (X * R'))) → Sat w' (tabHp tb fb pb hm (updA L k x') n * R') := by
  obtain ⟨X, h1, h2, _⟩ := focusA (hnHp fb) L k x hx
  refine ⟨pts tb (tbO fb pb hm) * (pmap hm (hblk L) L.length n * X), h.perm ?_, fun w' x' R' hb h' => h'.perm ?_⟩
  · unfold tabHp; rw [h1]; unfold hnHp; ac_rfl
  · unfold tabHp
    rw [h2 x', hblk_upd L k x x' hx hb, updA_len]; unfold hnHp; ac_rfl
theorem hn_cells {w : World} {x : Hn} {S : Hp} (h : Sat w (pts x.b (hnO x) * S)) : w.cell? ⟨x.b, 0, none⟩ = some (.int .i64 x.refs) ∧ w.cell? ⟨x.b, 1, none⟩ = some (.iface (thT x.t) (pp x.xb)) := by
  have hb := h.get
  refine ⟨?_, ?_⟩ <;> rw [cell_at hb] <;> rfl
def getE (L : HL) (k : Int) : Int := match findA L k with
  | none => 18
  | some _ => 0
set_option maxRecDepth 100000 in
set_option maxHeartbeats 4000000 in
theorem get_calls (tb fb pb hm n : Nat) (L : HL) (k : Int) (hk : I64 k) (w : World) (R : Hp) (h : Sat w (tabHp tb fb pb hm L n * R)) :
    Calls Tryz.prog 38 #[pp tb, .int .i64 k] w fun e w' => e = .returned (.tuple #[pv (hblk L k), .int .i64 (getE L k)]) ∧ w = w' := by
  obtain ⟨c0, c1, c2⟩ := tab_cells h
  have hl := tab_look h k hk
  unfold getE
  cases hx : findA L k with
  | none =>
    rw [show hblk L k = none by unfold hblk; rw [hx]; rfl] at hl ⊢
    clear h hx
    unfold pv at hl ⊢
    go_enter Tryz.func38, Tryz.ntmps38
    go_wp2_with fail
    go_ret2
    exact ⟨rfl, rfl⟩
  | some x =>
    rw [show hblk L k = some x.b by unfold hblk; rw [hx]; rfl] at hl ⊢
    clear h hx
    unfold pv at hl ⊢
    go_enter Tryz.func38, Tryz.ntmps38
    go_wp2_with fail
    go_ret2
    exact ⟨rfl, rfl⟩
end Go.Proofs.YtljlpkeddbfpaaaGreatDoor.Hd
