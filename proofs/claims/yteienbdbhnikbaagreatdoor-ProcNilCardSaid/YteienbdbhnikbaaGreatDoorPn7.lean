/- HandlesPlays, part 7 of 18: the texts HdI HdJ HdL HdMe HdM HdU HdV, joined by a program. -/
import Derived.Test.YteienbdbhnikbaaGreatDoorPn6
namespace Go.Proofs.YteienbdbhnikbaaGreatDoor.Hd
open Go.RowKit Go.Maps Go.Proofs.YteienbdbhnikbaaGreatDoor Go.Proofs.YteienbdbhnikbaaGreatDoor.Hp
set_option linter.unusedVariables false
attribute [local go_sem] Oper.semAt_some

section
variable {α : Type}
def findA : List (Int × α) → Int → Option α
  | [], _ => none
  | p :: L, k => if p.1 = k then some p.2 else findA L k
def updA : List (Int × α) → Int → α → List (Int × α)
  | [], _, _ => []
  | p :: L, k, x => if p.1 = k then (k, x) :: L else p :: updA L k x
def delA : List (Int × α) → Int → List (Int × α)
  | [], _ => []
  | p :: L, k => if p.1 = k then L else p :: delA L k
theorem focusA (P : α → Hp) : ∀ (L : List (Int × α)) (k : Int) (x : α), findA L k = some x → ∃ F : Hp, all (fun p : Int × α => P p.2) L = P x * F ∧ (∀ x', all (fun p : Int × α => P p.2) (updA L k x') = P x' * F) ∧ all (fun p : Int × α => P p.2) (delA L k) = F
  | [], k, x, h => by cases h
  | p :: L, k, x, h => by
    unfold findA at h
    by_cases e : p.1 = k
    · rw [if_pos e] at h
      injection h with h
      refine ⟨all (fun p : Int × α => P p.2) L, by rw [← h]; rfl, fun x' => by unfold updA; rw [if_pos e]; rfl, by unfold delA; rw [if_pos e]⟩
    · rw [if_neg e] at h
      obtain ⟨F, h1, h2, h3⟩ := focusA P L k x h
      refine ⟨P p.2 * F, ?_, fun x' => ?_, ?_⟩
      · show P p.2 * all (fun p : Int × α => P p.2) L = _
        rw [h1]; ac_rfl
      · unfold updA; rw [if_neg e]
        show P p.2 * all (fun p : Int × α => P p.2) (updA L k x') = _
        rw [h2 x']; ac_rfl
      · unfold delA; rw [if_neg e]
        show P p.2 * all (fun p : Int × α => P p.2) (delA L k) = _
        rw [h3]
theorem findA_upd : ∀ (L : List (Int × α)) (k j : Int) (x : α), (findA L k).isSome = true → findA (updA L k x) j = if j = k then some x else findA L j
  | [], _, _, _, h => by cases h
  | p :: L, k, j, x, h => by
    unfold findA at h
    by_cases e : p.1 = k
    · unfold updA; rw [if_pos e]
      show (if k = j then some x else findA L j) = if j = k then some x else (if p.1 = j then some p.2 else findA L j)
      by_cases e2 : j = k
      · subst e2; simp
      · rw [if_neg e2, if_neg (fun h => e2 h.symm), if_neg (fun h => e2 (by rw [← h, e]))]
    · rw [if_neg e] at h
      unfold updA; rw [if_neg e]; unfold findA
      by_cases e2 : p.1 = j
      · rw [if_pos e2, if_neg (fun h => e (by rw [e2, h])), if_pos e2]
      · rw [if_neg e2, findA_upd L k j x h, if_neg e2]
theorem updA_len : ∀ (L : List (Int × α)) (k : Int) (x : α), (updA L k x).length = L.length
  | [], _, _ => rfl
  | p :: L, k, x => by
    unfold updA
    split
    · rfl
    · show (updA L k x).length + 1 = _; rw [updA_len L k x]; rfl
theorem findA_cons (L : List (Int × α)) (k j : Int) (x : α) : findA ((k, x) :: L) j = if j = k then some x else findA L j := by
  show (if k = j then some x else findA L j) = _
  by_cases e : j = k
  · subst e; simp
  · rw [if_neg e, if_neg (fun h => e h.symm)]
theorem findA_mem : ∀ (L : List (Int × α)) (k : Int), (findA L k).isSome = true → k ∈ L.map Prod.fst
  | [], k, h => by cases h
  | p :: L, k, h => by
    unfold findA at h
    by_cases e : p.1 = k
    · rw [← e]; exact List.mem_cons_self
    · rw [if_neg e] at h; exact List.mem_cons_of_mem _ (findA_mem L k h)
theorem len_subset' : ∀ (l L : List Int), l.Pairwise (· ≠ ·) → (∀ x ∈ l, x ∈ L) → l.length ≤ L.length
  | [], _, _, _ => Nat.zero_le _
  | x :: l, L, hp, hs => by
    have h1 : x ∈ L := hs x List.mem_cons_self
    have h2 := len_subset' l (L.erase x) (List.Pairwise.of_cons hp) (fun y hy => by
      refine (List.mem_erase_of_ne ?_).2 (hs y (List.mem_cons_of_mem _ hy))
      exact fun e => (List.rel_of_pairwise_cons hp hy) e.symm)
    rw [List.length_erase_of_mem h1] at h2
    have := List.length_pos_of_mem h1
    show l.length + 1 ≤ _
    omega
/-- The least number from 1 on that is free. -/
theorem free_number (L : List (Int × α)) : ∃ g : Nat, 1 ≤ g ∧ g ≤ L.length + 1 ∧ findA L (g : Int) = none ∧ ∀ j : Nat, 1 ≤ j → j < g → (findA L (j : Int)).isSome = true := by
  have go : ∀ m : Nat, (∀ j : Nat, 1 ≤ j → j < m + 1 → (findA L (j : Int)).isSome = true) → m ≤ L.length := by
    intro m hm
    have := len_subset' ((List.range m).map fun i : Nat => ((i + 1 : Nat) : Int)) (L.map Prod.fst) (by
      rw [List.pairwise_map]
      exact (List.nodup_range (n := m)).imp fun h e => h (by omega)) (fun x hx => by
      obtain ⟨i, hi, rfl⟩ := List.mem_map.1 hx
      exact findA_mem L _ (hm (i + 1) (by omega) (by have := List.mem_range.1 hi; omega)))
    simpa using this
  have ex : ∀ f m : Nat, L.length + 1 - m ≤ f → (∀ j : Nat, 1 ≤ j → j < m + 1 → (findA L (j : Int)).isSome = true) → ∃ g : Nat, 1 ≤ g ∧ g ≤ L.length + 1 ∧ findA L (g : Int) = none ∧ ∀ j : Nat, 1 ≤ j → j < g → (findA L (j : Int)).isSome = true := by
    intro f
    induction f with
    | zero =>
      intro m hf hm
      have := go m hm
      omega
    | succ f ih =>
      intro m hf hm
      have hle := go m hm
      cases hc : findA L ((m + 1 : Nat) : Int) with
      | none => exact ⟨m + 1, by omega, by omega, hc, hm⟩
      | some x =>
        refine ih (m + 1) (by omega) (fun j h1 h2 => ?_)
        by_cases e : j = m + 1
        · subst e; rw [hc]; rfl
        · exact hm j h1 (by omega)
  exact ex (L.length + 1) 0 (by omega) (fun j h1 h2 => absurd h2 (by omega))
end
/-- What a handle is of. -/
inductive Th where
  | file (n : Int) (a : Nat) (m : Md)
  | text (s : ByteArray) (a : Nat)
  | reader (bb eb : Nat)
  | writer (bb eb : Nat)
  | sink (sp q : Option Addr) (cap : Nat) (l : List UInt8) (most : Nat)
/-- A handle: its block, its refs, the block of its thing, the thing. -/
structure Hn where
  b : Nat
  refs : Int
  xb : Nat
  t : Th
def thT : Th → TypeId
  | .file .. => 159
  | .text .. => 132
  | .reader .. => 144
  | .writer .. => 148
  | .sink .. => 135
def thO (fb : Nat) : Th → Obj
  | .file n a m => flO fb n a m
  | .text s a => .cells #[.string s, .int .i64 (a : Int)] 134 (0, 0)
  | .reader bb eb => .cells #[pp bb, pp eb] 147 (0, 0)
  | .writer bb eb => .cells #[pp bb, pp eb] 149 (0, 0)
  | .sink sp q cap l most => .cells #[.pointer sp, .slice q l.length cap, .int .i64 (most : Int)] 141 (0, 0)
abbrev hnO (x : Hn) : Obj := .cells #[.int .i64 x.refs, .iface (thT x.t) (pp x.xb)] 110 (0, 0)
def hnHp (fb : Nat) (x : Hn) : Hp := pts x.b (hnO x) * pts x.xb (thO fb x.t)
abbrev tbO (fb pb hm : Nat) : Obj := .cells #[pp fb, pp pb, .map (some hm)] 104 (0, 0)
abbrev HL := List (Int × Hn)
def hblk (L : HL) : Int → Option Nat := fun k => (findA L k).map Hn.b
def tabHp (tb fb pb hm : Nat) (L : HL) (n : Nat) : Hp := pts tb (tbO fb pb hm) * (pmap hm (hblk L) L.length n * all (fun p : Int × Hn => hnHp fb p.2) L)
theorem tab_cells {w : World} {tb fb pb hm n : Nat} {L : HL} {R : Hp} (h : Sat w (tabHp tb fb pb hm L n * R)) : w.cell? ⟨tb, 0, none⟩ = some (pp fb) ∧ w.cell? ⟨tb, 1, none⟩ = some (pp pb) ∧ w.cell? ⟨tb, 2, none⟩ = some (.map (some hm)) := by
  have hb := (h.perm (show _ = pts tb (tbO fb pb hm) * (pmap hm (hblk L) L.length n * all (fun p : Int × Hn => hnHp fb p.2) L * R) by unfold tabHp; ac_rfl)).get
  refine ⟨?_, ?_, ?_⟩ <;> rw [cell_at hb] <;> rfl
theorem tab_look {w : World} {tb fb pb hm n : Nat} {L : HL} {R : Hp} (h : Sat w (tabHp tb fb pb hm L n * R)) (k : Int) (hk : I64 k) : (Instr.lookup 101 (.map (some hm)) (.int .i64 k) false).run Tryz.prog w = .ok (pv (hblk L k)) w :=
  pmap_look Tryz.underlying101 zeroHandle (h.perm (show _ = pmap hm (hblk L) L.length n * (pts tb (tbO fb pb hm) * all (fun p : Int × Hn => hnHp fb p.2) L * R) by unfold tabHp; ac_rfl)) k hk
theorem hblk_upd (L : HL) (k : Int) (x x' : Hn) (h : findA L k = some x) (hb : x'.b = x.b) : hblk (updA L k x') = hblk L := by
  funext j
  unfold hblk
  rw [findA_upd L k j x' (by rw [h]; rfl)]
  by_cases e : j = k
  · subst e; rw [if_pos rfl, h]; simp [hb]
  · rw [if_neg e]
/-- One handle, and how another one takes its place. -/
theorem tab_node {w : World} {tb fb pb hm n : Nat} {L : HL} {R : Hp} (h : Sat w (tabHp tb fb pb hm L n * R)) {k : Int} {x : Hn} (hx : findA L k = some x) :
    ∃ X : Hp, Sat w (pts x.b (hnO x) * (pts x.xb (thO fb x.t) * (X * R))) ∧
      ∀ (w' : World) (x' : Hn) (R' : Hp), x'.b = x.b → Sat w' (pts x'.b (hnO x') * (pts x'.xb (thO fb x'.t) * (X * R'))) → Sat w' (tabHp tb fb pb hm (updA L k x') n * R') := by
  obtain ⟨X, h1, h2, _⟩ := focusA (hnHp fb) L k x hx
  refine ⟨pts tb (tbO fb pb hm) * (pmap hm (hblk L) L.length n * X), h.perm ?_, fun w' x' R' hb h' => h'.perm ?_⟩
  · unfold tabHp; rw [h1]; unfold hnHp; ac_rfl
  · unfold tabHp
    rw [h2 x', hblk_upd L k x x' hx hb, updA_len]; unfold hnHp; ac_rfl
theorem hn_cells {w : World} {x : Hn} {S : Hp} (h : Sat w (pts x.b (hnO x) * S)) : w.cell? ⟨x.b, 0, none⟩ = some (.int .i64 x.refs) ∧ w.cell? ⟨x.b, 1, none⟩ = some (.iface (thT x.t) (pp x.xb)) := by
  have hb := h.get
  refine ⟨?_, ?_⟩ <;> rw [cell_at hb] <;> rfl
def getE (L : HL) (k : Int) : Int := match findA L k with
  | none => 18
  | some _ => 0
set_option maxRecDepth 100000 in
set_option maxHeartbeats 4000000 in
theorem get_calls (tb fb pb hm n : Nat) (L : HL) (k : Int) (hk : I64 k) (w : World) (R : Hp) (h : Sat w (tabHp tb fb pb hm L n * R)) :
    Calls Tryz.prog 59 #[pp tb, .int .i64 k] w fun e w' => e = .returned (.tuple #[pv (hblk L k), .int .i64 (getE L k)]) ∧ w = w' := by
  obtain ⟨c0, c1, c2⟩ := tab_cells h
  have hl := tab_look h k hk
  unfold getE
  cases hx : findA L k with
  | none =>
    rw [show hblk L k = none by unfold hblk; rw [hx]; rfl] at hl ⊢
    clear h hx
    unfold pv at hl ⊢
    go_enter Tryz.func59, Tryz.ntmps59
    go_wp2_with fail
    go_ret2
    exact ⟨rfl, rfl⟩
  | some x =>
    rw [show hblk L k = some x.b by unfold hblk; rw [hx]; rfl] at hl ⊢
    clear h hx
    unfold pv at hl ⊢
    go_enter Tryz.func59, Tryz.ntmps59
    go_wp2_with fail
    go_ret2
    exact ⟨rfl, rfl⟩
end Go.Proofs.YteienbdbhnikbaaGreatDoor.Hd

namespace Go.Proofs.YteienbdbhnikbaaGreatDoor.Hd
open Go.RowKit Go.Maps Go.Proofs.YteienbdbhnikbaaGreatDoor Go.Proofs.YteienbdbhnikbaaGreatDoor.Hp
set_option linter.unusedVariables false
attribute [local go_sem] Oper.semAt_some

structure Free (L : HL) (g : Nat) : Prop where
  pos : 1 ≤ g
  le : g ≤ L.length + 1
  none : findA L (g : Int) = none
  least : ∀ j : Nat, 1 ≤ j → j < g → (findA L (j : Int)).isSome = true
theorem hblk_cons (L : HL) (k : Int) (x : Hn) : hblk ((k, x) :: L) = putP (hblk L) k x.b := by
  funext j
  unfold hblk putP
  rw [findA_cons]
  by_cases e : j = k
  · rw [if_pos e, if_pos e]; rfl
  · rw [if_neg e, if_neg e]
set_option maxRecDepth 100000 in
set_option maxHeartbeats 4000000 in
theorem add_calls (tb fb pb hm n : Nat) (L : HL) (t : Th) (xb g : Nat) (hg : Free L g) (hn : n ≤ 1000000) (w : World) (R : Hp) (h : Sat w (tabHp tb fb pb hm L n * (pts xb (thO fb t) * R))) :
    Calls Tryz.prog 68 #[pp tb, .iface (thT t) (pp xb)] w fun e w' => (e = .returned (.int .i64 (g : Int)) ∧ ∃ hb, Sat w' (tabHp tb fb pb hm (((g : Int), ⟨hb, 1, xb, t⟩) :: L) (n + 1) * R)) ∧ Ran w w' := by
  obtain ⟨c0, c1, c2⟩ := tab_cells h
  have hLn : L.length ≤ n := pmap_le (h.perm (show _ = pmap hm (hblk L) L.length n * (pts tb (tbO fb pb hm) * all (fun p : Int × Hn => hnHp fb p.2) L * (pts xb (thO fb t) * R)) by unfold tabHp; ac_rfl))
  obtain ⟨g1, g2, g3, g4⟩ := hg
  have HLk := Lib.hid (fun (k : Int) (hk : I64 k) => tab_look h k hk)
  have Hg3 := Lib.hid g3
  have Hg4 := Lib.hid g4
  -- the end
  obtain ⟨ty, hty⟩ : ∃ ty, ty = thT t := ⟨_, rfl⟩
  have S1 := h.alloc (hnO ⟨w.heap.size, 1, xb, t⟩)
  obtain ⟨w', hrun, S2, R2⟩ := pmap_put Tryz.underlying101 (S1.perm (show _ = pmap hm (hblk L) L.length n * (pts tb (tbO fb pb hm) * all (fun p : Int × Hn => hnHp fb p.2) L * (pts w.heap.size (hnO ⟨w.heap.size, 1, xb, t⟩) * (pts xb (thO fb t) * R))) by unfold tabHp; ac_rfl)) (by unfold maxLen; omega) (g : Int) (by unfold I64; omega) (by unfold hblk; rw [g3]; rfl) w.heap.size
  have S3 : Sat w' (tabHp tb fb pb hm (((g : Int), ⟨w.heap.size, 1, xb, t⟩) :: L) (n + 1) * R) := S2.perm (by
    unfold tabHp
    rw [hblk_cons]
    show _ = pts tb (tbO fb pb hm) * (pmap hm (putP (hblk L) (g : Int) w.heap.size) (L.length + 1) (n + 1) * ((pts w.heap.size (hnO ⟨w.heap.size, 1, xb, t⟩) * pts xb (thO fb t)) * all (fun p : Int × Hn => hnHp fb p.2) L)) * R
    ac_rfl)
  have c2' : (w.alloc (hnO ⟨w.heap.size, 1, xb, t⟩)).cell? ⟨tb, 2, none⟩ = some (.map (some hm)) := (World.cell?_alloc_lt w _ _ (World.block_lt_of_cell? w _ c2)).trans c2
  have R3 := Lib.hid (Below.trans (Ran.new (Below.refl 0 w) (hnO ⟨w.heap.size, 1, xb, t⟩)) R2)
  have S3 := Lib.hid S3
  unfold hnO at hrun c2'
  dsimp only at hrun c2'
  rw [← hty] at hrun c2' ⊢
  have hgI : (g : Int) ≤ 1000001 := by omega
  clear h g3 g4 S1 S2 R2 hty
  go_enter Tryz.func68, Tryz.ntmps68
  go_wp2_with fail
  go_loopg [5] (g - 1) (fun (gk : Nat) (v5 : Value) (wr : World) => ∃ i : Nat, v5 = .int .i64 (i : Int) ∧ 1 ≤ i ∧ i + gk = g ∧ w = wr)
  case atStart => exact ⟨1, rfl, Nat.le_refl _, by omega, rfl⟩
  case round =>
    obtain ⟨i, rfl, hi1, hig, rfl⟩ := hrel
    by_cases hlt : i < g
    · have hs := Hg4.out i hi1 hlt
      obtain ⟨x, hx⟩ := Option.isSome_iff_exists.1 hs
      have hl := HLk.out (i : Int) (by unfold I64; omega)
      rw [show hblk L (i : Int) = some x.b by unfold hblk; rw [hx]; rfl] at hl
      unfold pv at hl
      have hiI : (i : Int) ≤ 1000001 := by omega
      have hi0 : (0 : Int) ≤ (i : Int) := by omega
      clear hs hx hrun
      go_wp2_with fail
      go_roundg (gk - 1)
      case rel => exact ⟨i + 1, by simp, by omega, by omega, rfl⟩
      case measure => omega
    · have hie : i = g := by omega
      subst hie
      have hl := HLk.out (i : Int) (by unfold I64; omega)
      rw [show hblk L (i : Int) = none by unfold hblk; rw [Hg3.out]; rfl] at hl
      unfold pv at hl
      clear hlt
      go_wp2_with fail
      go_ret
      exact ⟨⟨rfl, w.heap.size, S3.out⟩, R3.out⟩
end Go.Proofs.YteienbdbhnikbaaGreatDoor.Hd

namespace Go.Proofs.YteienbdbhnikbaaGreatDoor.Hd
open Go.RowKit Go.Maps Go.Proofs.YteienbdbhnikbaaGreatDoor Go.Proofs.YteienbdbhnikbaaGreatDoor.Hp
set_option linter.unusedVariables false
attribute [local go_sem] Oper.semAt_some

abbrev mdO (m : Md) : Obj := .cells #[.bool m.r, .bool m.w, .bool m.m] 50 (0, 0)
abbrev mdV (m : Md) : Value := .agg #[.bool m.r, .bool m.w, .bool m.m]
theorem md_cells {w : World} {b : Nat} {m : Md} {S : Hp} (h : Sat w (pts b (mdO m) * S)) : w.cell? ⟨b, 0, none⟩ = some (.bool m.r) ∧ w.cell? ⟨b, 1, none⟩ = some (.bool m.w) ∧ w.cell? ⟨b, 2, none⟩ = some (.bool m.m) := by
  have hb := h.get
  refine ⟨?_, ?_, ?_⟩ <;> rw [cell_at hb] <;> rfl
set_option maxRecDepth 100000 in
set_option maxHeartbeats 8000000 in
theorem File_calls (tb fb mb pb hm n : Nat) (F : Fs) (L : HL) (k : Int) (m : Md) (x : Nd) (g : Nat) (hk : I64 k) (hs : FsOk F) (hx : find F.L k = some x) (h2 : x.kind = 2) (hmd : m.r = true ∨ m.w = true) (hg : Free L g) (hn : n ≤ 1000000) (w : World) (R : Hp)
    (h : Sat w (fsHp fb mb F * (tabHp tb fb pb hm L n * R))) :
    Calls Tryz.prog 62 #[pp tb, .int .i64 k, mdV m] w fun e w' => (e = .returned (.tuple #[.int .i64 (g : Int), .int .i64 0]) ∧ ∃ hb xb, Sat w' (fsHp fb mb (holdP F k) * (tabHp tb fb pb hm (((g : Int), ⟨hb, 1, xb, .file k 0 m⟩) :: L) (n + 1) * R))) ∧ Ran w w' := by
  have S1 := (h.alloc (mdO m)).perm (show _ = fsHp fb mb F * (tabHp tb fb pb hm L n * (pts w.heap.size (mdO m) * R)) by ac_rfl)
  have HSt := Stat_calls fb mb F k hk (hs.small k) _ _ S1
  unfold statE statV at HSt
  rw [hx] at HSt
  dsimp only at HSt
  rw [h2] at HSt
  have HSt := Lib.hid HSt
  have Hs := Lib.hid hs
  have Hx := Lib.hid hx
  have Hg := Lib.hid hg
  obtain ⟨t0, t1, t2⟩ := tab_cells (S1.perm (show _ = tabHp tb fb pb hm L n * (fsHp fb mb F * (pts w.heap.size (mdO m) * R)) by ac_rfl))
  have S1 := Lib.hid S1
  have RA := Lib.hid (Ran.new (Below.refl 0 w) (mdO m))
  obtain ⟨mr, mw, mm⟩ := m
  dsimp only at hmd
  have Hmd := Lib.hid hmd
  clear h hs hx hg hmd
  by_cases hr1 : mr = true
  · subst hr1
    by_cases hw1 : mw = true
    · subst hw1
      go_enter Tryz.func62, Tryz.ntmps62
      go_wp2_with fail
      refine HSt.out.mono ?_
      rintro e w1 ⟨rfl, hB⟩
      have S2 := (S1.out.below hB).alloc (infoO 2 (sizeN x) x.names x.holds)
      have R2 := Lib.hid (Ran.new (Below.trans RA.out (below_ran hB)) (infoO 2 (sizeN x) x.names x.holds))
      obtain ⟨r0, r1, r2, r3⟩ := info_cells S2
      have S2r := S2.right
      clear t0 t1 t2
      obtain ⟨t0, t1, t2⟩ := tab_cells (S2r.perm (show _ = tabHp tb fb pb hm L n * (fsHp fb mb F * (pts w.heap.size (mdO ⟨true, true, mm⟩) * R)) by ac_rfl))
      obtain ⟨u0, u1, u2⟩ := md_cells (S2r.perm (show _ = pts w.heap.size (mdO ⟨true, true, mm⟩) * (fsHp fb mb F * (tabHp tb fb pb hm L n * R)) by ac_rfl))
      have HH := Hold_calls fb mb F k hk Hs.out _ _ S2r
      unfold statE at HH
      rw [Hx.out] at HH
      have HH := Lib.hid HH
      clear hB S2 S2r HSt S1 RA
      go_wp2_with fail
      refine HH.out.mono ?_
      rintro e w3 ⟨⟨rfl, S3⟩, R3⟩
      have S4 := (S3.alloc (flO fb k 0 ⟨true, true, mm⟩)).drew
      have S3 := S3.drew
      have R3 := Lib.hid (Below.trans R2.out R3)
      clear t0 t1 t2 u0 u1 u2 r0 r1 r2 r3 HH R2
      obtain ⟨t0, t1, t2⟩ := tab_cells (S3.perm (show _ = tabHp tb fb pb hm L n * (fsHp fb mb (holdP F k) * (pts w.heap.size (mdO ⟨true, true, mm⟩) * R)) by ac_rfl))
      obtain ⟨u0, u1, u2⟩ := md_cells (S3.perm (show _ = pts w.heap.size (mdO ⟨true, true, mm⟩) * (fsHp fb mb (holdP F k) * (tabHp tb fb pb hm L n * R)) by ac_rfl))
      have a0 := (tab_cells (S4.right.perm (show _ = tabHp tb fb pb hm L n * (fsHp fb mb (holdP F k) * (pts w.heap.size (mdO ⟨true, true, mm⟩) * R)) by ac_rfl))).1
      obtain ⟨v0, v1, v2⟩ := md_cells (S4.right.perm (show _ = pts w.heap.size (mdO ⟨true, true, mm⟩) * (fsHp fb mb (holdP F k) * (tabHp tb fb pb hm L n * R)) by ac_rfl))
      have HAd := Lib.hid (add_calls tb fb pb hm n L (.file k 0 ⟨true, true, mm⟩) w3.heap.size g Hg.out hn _ (fsHp fb mb (holdP F k) * (pts w.heap.size (mdO ⟨true, true, mm⟩) * R)) (S4.perm (show pts w3.heap.size (thO fb (.file k 0 ⟨true, true, mm⟩)) * _ = _ by ac_rfl)))
      dsimp only at u0 u1 u2 v0 v1 v2
      clear S3 S4
      go_wp2_with fail
      refine region_plan (S := (fun w' => w'.cell? ⟨tb, 0, none⟩ = some (pp fb) ∧ w'.cell? ⟨w.heap.size, 0, none⟩ = some (.bool true) ∧ w'.cell? ⟨w.heap.size, 1, none⟩ = some (.bool true) ∧ w'.cell? ⟨w.heap.size, 2, none⟩ = some (.bool mm))) [(0, true), (1, true), (2, true), (3, true), (4, true), (5, true), (6, true), (7, true), (8, false), (9, true), (10, false), (11, true), (12, true)] (by kernel_rfl) (by kernel_rfl) (by kernel_rfl) ?_ ?_
      · ((try dsimp only); (first | done | (first | with_reducible exact ⟨t0, u0, u1, u2⟩ | with_reducible exact ⟨a0, v0, v1, v2⟩ | exact K5)))
      simp only [planOps, List.map_cons, List.map_nil, List.getElem?_toArray, List.getElem?_cons_zero, List.getElem?_cons_succ]
      repeat (first
        | ((refine plan_yes (v := ?_) (by rfl) ?_ ?_); rotate_left; (focus (intro w hSw; (try dsimp only at hSw); go_simp; try (with_reducible rfl))); (try simp only [Act.put, List.setIfInBounds_toArray, List.set_cons_zero, List.set_cons_succ]))
        | ((refine plan_no (by rfl) ?_); (try simp only [Act.put, List.setIfInBounds_toArray, List.set_cons_zero, List.set_cons_succ]))
        | ((refine plan_step (fun K hK => ?_)); (first | (go_simp; ((go_at_call 68; refine HAd.out.mono ?_; rintro e w5 ⟨⟨rfl, hb5, S5⟩, R5⟩; have S5 := S5.perm (show _ = fsHp fb mb (holdP F k) * (tabHp tb fb pb hm (((g : Int), ⟨hb5, 1, w3.heap.size, .file k 0 ⟨true, true, mm⟩⟩) :: L) (n + 1) * (pts w.heap.size (mdO ⟨true, true, mm⟩) * R)) by ac_rfl); obtain ⟨x0, x1, x2⟩ := md_cells (S5.perm (show _ = pts w.heap.size (mdO ⟨true, true, mm⟩) * (fsHp fb mb (holdP F k) * (tabHp tb fb pb hm (((g : Int), ⟨hb5, 1, w3.heap.size, .file k 0 ⟨true, true, mm⟩⟩) :: L) (n + 1) * R)) by ac_rfl)); have K5 := And.intro (tab_cells (S5.perm (show _ = tabHp tb fb pb hm (((g : Int), ⟨hb5, 1, w3.heap.size, .file k 0 ⟨true, true, mm⟩⟩) :: L) (n + 1) * (fsHp fb mb (holdP F k) * (pts w.heap.size (mdO ⟨true, true, mm⟩) * R)) by ac_rfl))).1 (And.intro x0 (And.intro x1 x2)))); (try go_wp2_with fail)) | go_simp); (refine hK.out _ _ ?_ (fun hHeld => ?_)); (focus ((try dsimp only); (first | done | (first | with_reducible exact ⟨t0, u0, u1, u2⟩ | with_reducible exact ⟨a0, v0, v1, v2⟩ | exact K5)))); clear hK K; (try simp only [Act.put, List.setIfInBounds_toArray, List.set_cons_zero, List.set_cons_succ])))
      refine plan_done ?_
      have R5 := Lib.hid (Below.trans (Ran.drewN (Ran.new R3.out (flO fb k 0 ⟨true, true, mm⟩)) 1) R5)
      have S5 := Lib.hid (S5.perm (show _ = pts w.heap.size (mdO ⟨true, true, mm⟩) * (fsHp fb mb (holdP F k) * (tabHp tb fb pb hm (((g : Int), ⟨hb5, 1, w3.heap.size, .file k 0 ⟨true, true, mm⟩⟩) :: L) (n + 1) * R)) by ac_rfl))
      go_wp2_with fail
      go_ret2
      exact ⟨⟨rfl, hb5, _, S5.out.right⟩, R5.out⟩
    · have hw2 : mw = false := by simpa using hw1
      subst hw2
      go_enter Tryz.func62, Tryz.ntmps62
      go_wp2_with fail
      refine HSt.out.mono ?_
      rintro e w1 ⟨rfl, hB⟩
      have S2 := (S1.out.below hB).alloc (infoO 2 (sizeN x) x.names x.holds)
      have R2 := Lib.hid (Ran.new (Below.trans RA.out (below_ran hB)) (infoO 2 (sizeN x) x.names x.holds))
      obtain ⟨r0, r1, r2, r3⟩ := info_cells S2
      have S2r := S2.right
      clear t0 t1 t2
      obtain ⟨t0, t1, t2⟩ := tab_cells (S2r.perm (show _ = tabHp tb fb pb hm L n * (fsHp fb mb F * (pts w.heap.size (mdO ⟨true, false, mm⟩) * R)) by ac_rfl))
      obtain ⟨u0, u1, u2⟩ := md_cells (S2r.perm (show _ = pts w.heap.size (mdO ⟨true, false, mm⟩) * (fsHp fb mb F * (tabHp tb fb pb hm L n * R)) by ac_rfl))
      have HH := Hold_calls fb mb F k hk Hs.out _ _ S2r
      unfold statE at HH
      rw [Hx.out] at HH
      have HH := Lib.hid HH
      clear hB S2 S2r HSt S1 RA
      go_wp2_with fail
      refine HH.out.mono ?_
      rintro e w3 ⟨⟨rfl, S3⟩, R3⟩
      have S4 := (S3.alloc (flO fb k 0 ⟨true, false, mm⟩)).drew
      have S3 := S3.drew
      have R3 := Lib.hid (Below.trans R2.out R3)
      clear t0 t1 t2 u0 u1 u2 r0 r1 r2 r3 HH R2
      obtain ⟨t0, t1, t2⟩ := tab_cells (S3.perm (show _ = tabHp tb fb pb hm L n * (fsHp fb mb (holdP F k) * (pts w.heap.size (mdO ⟨true, false, mm⟩) * R)) by ac_rfl))
      obtain ⟨u0, u1, u2⟩ := md_cells (S3.perm (show _ = pts w.heap.size (mdO ⟨true, false, mm⟩) * (fsHp fb mb (holdP F k) * (tabHp tb fb pb hm L n * R)) by ac_rfl))
      have a0 := (tab_cells (S4.right.perm (show _ = tabHp tb fb pb hm L n * (fsHp fb mb (holdP F k) * (pts w.heap.size (mdO ⟨true, false, mm⟩) * R)) by ac_rfl))).1
      obtain ⟨v0, v1, v2⟩ := md_cells (S4.right.perm (show _ = pts w.heap.size (mdO ⟨true, false, mm⟩) * (fsHp fb mb (holdP F k) * (tabHp tb fb pb hm L n * R)) by ac_rfl))
      have HAd := Lib.hid (add_calls tb fb pb hm n L (.file k 0 ⟨true, false, mm⟩) w3.heap.size g Hg.out hn _ (fsHp fb mb (holdP F k) * (pts w.heap.size (mdO ⟨true, false, mm⟩) * R)) (S4.perm (show pts w3.heap.size (thO fb (.file k 0 ⟨true, false, mm⟩)) * _ = _ by ac_rfl)))
      dsimp only at u0 u1 u2 v0 v1 v2
      clear S3 S4
      go_wp2_with fail
      refine region_plan (S := (fun w' => w'.cell? ⟨tb, 0, none⟩ = some (pp fb) ∧ w'.cell? ⟨w.heap.size, 0, none⟩ = some (.bool true) ∧ w'.cell? ⟨w.heap.size, 1, none⟩ = some (.bool false) ∧ w'.cell? ⟨w.heap.size, 2, none⟩ = some (.bool mm))) [(0, true), (1, true), (2, true), (3, true), (4, true), (5, true), (6, true), (7, true), (8, false), (9, true), (10, false), (11, true), (12, true)] (by kernel_rfl) (by kernel_rfl) (by kernel_rfl) ?_ ?_
      · ((try dsimp only); (first | done | (first | with_reducible exact ⟨t0, u0, u1, u2⟩ | with_reducible exact ⟨a0, v0, v1, v2⟩ | exact K5)))
      simp only [planOps, List.map_cons, List.map_nil, List.getElem?_toArray, List.getElem?_cons_zero, List.getElem?_cons_succ]
      repeat (first
        | ((refine plan_yes (v := ?_) (by rfl) ?_ ?_); rotate_left; (focus (intro w hSw; (try dsimp only at hSw); go_simp; try (with_reducible rfl))); (try simp only [Act.put, List.setIfInBounds_toArray, List.set_cons_zero, List.set_cons_succ]))
        | ((refine plan_no (by rfl) ?_); (try simp only [Act.put, List.setIfInBounds_toArray, List.set_cons_zero, List.set_cons_succ]))
        | ((refine plan_step (fun K hK => ?_)); (first | (go_simp; ((go_at_call 68; refine HAd.out.mono ?_; rintro e w5 ⟨⟨rfl, hb5, S5⟩, R5⟩; have S5 := S5.perm (show _ = fsHp fb mb (holdP F k) * (tabHp tb fb pb hm (((g : Int), ⟨hb5, 1, w3.heap.size, .file k 0 ⟨true, false, mm⟩⟩) :: L) (n + 1) * (pts w.heap.size (mdO ⟨true, false, mm⟩) * R)) by ac_rfl); obtain ⟨x0, x1, x2⟩ := md_cells (S5.perm (show _ = pts w.heap.size (mdO ⟨true, false, mm⟩) * (fsHp fb mb (holdP F k) * (tabHp tb fb pb hm (((g : Int), ⟨hb5, 1, w3.heap.size, .file k 0 ⟨true, false, mm⟩⟩) :: L) (n + 1) * R)) by ac_rfl)); have K5 := And.intro (tab_cells (S5.perm (show _ = tabHp tb fb pb hm (((g : Int), ⟨hb5, 1, w3.heap.size, .file k 0 ⟨true, false, mm⟩⟩) :: L) (n + 1) * (fsHp fb mb (holdP F k) * (pts w.heap.size (mdO ⟨true, false, mm⟩) * R)) by ac_rfl))).1 (And.intro x0 (And.intro x1 x2)))); (try go_wp2_with fail)) | go_simp); (refine hK.out _ _ ?_ (fun hHeld => ?_)); (focus ((try dsimp only); (first | done | (first | with_reducible exact ⟨t0, u0, u1, u2⟩ | with_reducible exact ⟨a0, v0, v1, v2⟩ | exact K5)))); clear hK K; (try simp only [Act.put, List.setIfInBounds_toArray, List.set_cons_zero, List.set_cons_succ])))
      refine plan_done ?_
      have R5 := Lib.hid (Below.trans (Ran.drewN (Ran.new R3.out (flO fb k 0 ⟨true, false, mm⟩)) 1) R5)
      have S5 := Lib.hid (S5.perm (show _ = pts w.heap.size (mdO ⟨true, false, mm⟩) * (fsHp fb mb (holdP F k) * (tabHp tb fb pb hm (((g : Int), ⟨hb5, 1, w3.heap.size, .file k 0 ⟨true, false, mm⟩⟩) :: L) (n + 1) * R)) by ac_rfl))
      go_wp2_with fail
      go_ret2
      exact ⟨⟨rfl, hb5, _, S5.out.right⟩, R5.out⟩
  · have hr2 : mr = false := by simpa using hr1
    subst hr2
    have hw1 : mw = true := by rcases Hmd.out with h | h; cases h; exact h
    subst hw1
    go_enter Tryz.func62, Tryz.ntmps62
    go_wp2_with fail
    refine HSt.out.mono ?_
    rintro e w1 ⟨rfl, hB⟩
    have S2 := (S1.out.below hB).alloc (infoO 2 (sizeN x) x.names x.holds)
    have R2 := Lib.hid (Ran.new (Below.trans RA.out (below_ran hB)) (infoO 2 (sizeN x) x.names x.holds))
    obtain ⟨r0, r1, r2, r3⟩ := info_cells S2
    have S2r := S2.right
    clear t0 t1 t2
    obtain ⟨t0, t1, t2⟩ := tab_cells (S2r.perm (show _ = tabHp tb fb pb hm L n * (fsHp fb mb F * (pts w.heap.size (mdO ⟨false, true, mm⟩) * R)) by ac_rfl))
    obtain ⟨u0, u1, u2⟩ := md_cells (S2r.perm (show _ = pts w.heap.size (mdO ⟨false, true, mm⟩) * (fsHp fb mb F * (tabHp tb fb pb hm L n * R)) by ac_rfl))
    have HH := Hold_calls fb mb F k hk Hs.out _ _ S2r
    unfold statE at HH
    rw [Hx.out] at HH
    have HH := Lib.hid HH
    clear hB S2 S2r HSt S1 RA
    go_wp2_with fail
    refine HH.out.mono ?_
    rintro e w3 ⟨⟨rfl, S3⟩, R3⟩
    have S4 := (S3.alloc (flO fb k 0 ⟨false, true, mm⟩)).drew
    have S3 := S3.drew
    have R3 := Lib.hid (Below.trans R2.out R3)
    clear t0 t1 t2 u0 u1 u2 r0 r1 r2 r3 HH R2
    obtain ⟨t0, t1, t2⟩ := tab_cells (S3.perm (show _ = tabHp tb fb pb hm L n * (fsHp fb mb (holdP F k) * (pts w.heap.size (mdO ⟨false, true, mm⟩) * R)) by ac_rfl))
    obtain ⟨u0, u1, u2⟩ := md_cells (S3.perm (show _ = pts w.heap.size (mdO ⟨false, true, mm⟩) * (fsHp fb mb (holdP F k) * (tabHp tb fb pb hm L n * R)) by ac_rfl))
    have a0 := (tab_cells (S4.right.perm (show _ = tabHp tb fb pb hm L n * (fsHp fb mb (holdP F k) * (pts w.heap.size (mdO ⟨false, true, mm⟩) * R)) by ac_rfl))).1
    obtain ⟨v0, v1, v2⟩ := md_cells (S4.right.perm (show _ = pts w.heap.size (mdO ⟨false, true, mm⟩) * (fsHp fb mb (holdP F k) * (tabHp tb fb pb hm L n * R)) by ac_rfl))
    have HAd := Lib.hid (add_calls tb fb pb hm n L (.file k 0 ⟨false, true, mm⟩) w3.heap.size g Hg.out hn _ (fsHp fb mb (holdP F k) * (pts w.heap.size (mdO ⟨false, true, mm⟩) * R)) (S4.perm (show pts w3.heap.size (thO fb (.file k 0 ⟨false, true, mm⟩)) * _ = _ by ac_rfl)))
    dsimp only at u0 u1 u2 v0 v1 v2
    clear S3 S4
    go_wp2_with fail
    refine region_plan (S := (fun w' => w'.cell? ⟨tb, 0, none⟩ = some (pp fb) ∧ w'.cell? ⟨w.heap.size, 0, none⟩ = some (.bool false) ∧ w'.cell? ⟨w.heap.size, 1, none⟩ = some (.bool true) ∧ w'.cell? ⟨w.heap.size, 2, none⟩ = some (.bool mm))) [(0, true), (1, true), (2, true), (3, true), (4, true), (5, true), (6, true), (7, true), (8, false), (9, true), (10, false), (11, true), (12, true)] (by kernel_rfl) (by kernel_rfl) (by kernel_rfl) ?_ ?_
    · ((try dsimp only); (first | done | (first | with_reducible exact ⟨t0, u0, u1, u2⟩ | with_reducible exact ⟨a0, v0, v1, v2⟩ | exact K5)))
    simp only [planOps, List.map_cons, List.map_nil, List.getElem?_toArray, List.getElem?_cons_zero, List.getElem?_cons_succ]
    repeat (first
      | ((refine plan_yes (v := ?_) (by rfl) ?_ ?_); rotate_left; (focus (intro w hSw; (try dsimp only at hSw); go_simp; try (with_reducible rfl))); (try simp only [Act.put, List.setIfInBounds_toArray, List.set_cons_zero, List.set_cons_succ]))
      | ((refine plan_no (by rfl) ?_); (try simp only [Act.put, List.setIfInBounds_toArray, List.set_cons_zero, List.set_cons_succ]))
      | ((refine plan_step (fun K hK => ?_)); (first | (go_simp; ((go_at_call 68; refine HAd.out.mono ?_; rintro e w5 ⟨⟨rfl, hb5, S5⟩, R5⟩; have S5 := S5.perm (show _ = fsHp fb mb (holdP F k) * (tabHp tb fb pb hm (((g : Int), ⟨hb5, 1, w3.heap.size, .file k 0 ⟨false, true, mm⟩⟩) :: L) (n + 1) * (pts w.heap.size (mdO ⟨false, true, mm⟩) * R)) by ac_rfl); obtain ⟨x0, x1, x2⟩ := md_cells (S5.perm (show _ = pts w.heap.size (mdO ⟨false, true, mm⟩) * (fsHp fb mb (holdP F k) * (tabHp tb fb pb hm (((g : Int), ⟨hb5, 1, w3.heap.size, .file k 0 ⟨false, true, mm⟩⟩) :: L) (n + 1) * R)) by ac_rfl)); have K5 := And.intro (tab_cells (S5.perm (show _ = tabHp tb fb pb hm (((g : Int), ⟨hb5, 1, w3.heap.size, .file k 0 ⟨false, true, mm⟩⟩) :: L) (n + 1) * (fsHp fb mb (holdP F k) * (pts w.heap.size (mdO ⟨false, true, mm⟩) * R)) by ac_rfl))).1 (And.intro x0 (And.intro x1 x2)))); (try go_wp2_with fail)) | go_simp); (refine hK.out _ _ ?_ (fun hHeld => ?_)); (focus ((try dsimp only); (first | done | (first | with_reducible exact ⟨t0, u0, u1, u2⟩ | with_reducible exact ⟨a0, v0, v1, v2⟩ | exact K5)))); clear hK K; (try simp only [Act.put, List.setIfInBounds_toArray, List.set_cons_zero, List.set_cons_succ])))
    refine plan_done ?_
    have R5 := Lib.hid (Below.trans (Ran.drewN (Ran.new R3.out (flO fb k 0 ⟨false, true, mm⟩)) 1) R5)
    have S5 := Lib.hid (S5.perm (show _ = pts w.heap.size (mdO ⟨false, true, mm⟩) * (fsHp fb mb (holdP F k) * (tabHp tb fb pb hm (((g : Int), ⟨hb5, 1, w3.heap.size, .file k 0 ⟨false, true, mm⟩⟩) :: L) (n + 1) * R)) by ac_rfl))
    go_wp2_with fail
    go_ret2
    exact ⟨⟨rfl, hb5, _, S5.out.right⟩, R5.out⟩
end Go.Proofs.YteienbdbhnikbaaGreatDoor.Hd

namespace Go.Proofs.YteienbdbhnikbaaGreatDoor.Hd
open Go.RowKit Go.Maps Go.Proofs.YteienbdbhnikbaaGreatDoor Go.Proofs.YteienbdbhnikbaaGreatDoor.Hp
set_option linter.unusedVariables false

theorem meth_file_info (b : Nat) (w : World) : (method 347 159 (pp b) "whelk/handles.info").run Tryz.prog w = .ok (184, pp b) w := by kernel_rfl
theorem meth_file_write (b : Nat) (w : World) : (method 347 159 (pp b) "whelk/handles.write").run Tryz.prog w = .ok (186, pp b) w := by kernel_rfl
theorem meth_file_gone (b : Nat) (w : World) : (method 347 159 (pp b) "whelk/handles.gone").run Tryz.prog w = .ok (183, pp b) w := by kernel_rfl
theorem meth_text_info (b : Nat) (w : World) : (method 347 132 (pp b) "whelk/handles.info").run Tryz.prog w = .ok (153, pp b) w := by kernel_rfl
theorem meth_sink_info (b : Nat) (w : World) : (method 347 135 (pp b) "whelk/handles.info").run Tryz.prog w = .ok (157, pp b) w := by kernel_rfl
theorem meth_reader_info (b : Nat) (w : World) : (method 347 144 (pp b) "whelk/handles.info").run Tryz.prog w = .ok (168, pp b) w := by kernel_rfl
theorem meth_writer_info (b : Nat) (w : World) : (method 347 148 (pp b) "whelk/handles.info").run Tryz.prog w = .ok (178, pp b) w := by kernel_rfl
theorem field_mode (k rf a n : Int) (x y z : Bool) (w : World) : (Instr.field 52 (.agg #[.int .i64 k, .int .i64 rf, .int .i64 a, .int .i64 n, .bool x, .bool y, .bool z]) 4).run Tryz.prog w = .ok (.agg #[.bool x, .bool y, .bool z]) w := by kernel_rfl
theorem field_w (x y z : Bool) (w : World) : (Instr.field 50 (.agg #[.bool x, .bool y, .bool z]) 1).run Tryz.prog w = .ok (.bool y) w := by kernel_rfl
end Go.Proofs.YteienbdbhnikbaaGreatDoor.Hd

namespace Go.Proofs.YteienbdbhnikbaaGreatDoor.Hd
open Go.RowKit Go.Maps Go.Proofs.YteienbdbhnikbaaGreatDoor Go.Proofs.YteienbdbhnikbaaGreatDoor.Hp
set_option linter.unusedVariables false
attribute [local go_sem] Oper.semAt_some

def atN (F : Fs) (k : Int) (x : Nd) (a : Nat) (m : Md) (d : ByteArray) : Nat := if (writeP F k x (atW x a m) d).1 = 0 then atW x a m + d.size else atW x a m
set_option maxRecDepth 100000 in
set_option maxHeartbeats 4000000 in
theorem TWrite_file (tb fb mb pb hm n : Nat) (F : Fs) (L : HL) (id k : Int) (y : Hn) (a : Nat) (m : Md) (x : Nd) (d : ByteArray) (hid : I64 id) (hy : findA L id = some y) (hyt : y.t = .file k a m) (hmw : m.w = true) (hk : I64 k) (ha : a ≤ 10000000) (hd : d.size ≤ 10000000) (hs : FsOk F) (hx : find F.L k = some x) (h2 : x.kind = 2) (hkid : x.kids = none) (hu : 0 ≤ F.used ∧ F.used ≤ 1000000000) (hr : 0 ≤ F.room ∧ F.room ≤ 1000000000) (w : World) (R : Hp)
    (h : Sat w (fsHp fb mb F * (tabHp tb fb pb hm L n * R))) :
    Calls Tryz.prog 63 #[pp tb, .int .i64 id, .string d] w fun e w' => (e = .returned (.int .i64 (writeP F k x (atW x a m) d).1) ∧
      Sat w' (fsHp fb mb (writeP F k x (atW x a m) d).2 * (tabHp tb fb pb hm (updA L id { y with t := .file k (atN F k x a m d) m }) n * R))) ∧ Ran w w' := by
  have HGt := get_calls tb fb pb hm n L id hid w _ (h.perm (show _ = tabHp tb fb pb hm L n * (fsHp fb mb F * R) by ac_rfl))
  unfold getE at HGt
  rw [show hblk L id = some y.b by unfold hblk; rw [hy]; rfl, hy] at HGt
  unfold pv at HGt
  have HGt := Lib.hid HGt
  obtain ⟨X, S1, back⟩ := tab_node (h.perm (show _ = tabHp tb fb pb hm L n * (fsHp fb mb F * R) by ac_rfl)) hy
  obtain ⟨d0, d1⟩ := hn_cells S1
  rw [hyt] at S1 d1
  unfold thT at d1
  unfold thO at S1
  have Hs := Lib.hid hs
  have hmi := meth_file_info y.xb
  have hmw2 := meth_file_write y.xb
  have S2 := S1.perm (show _ = pts y.xb (flO fb k a m) * (X * (fsHp fb mb F * R) * pts y.b (hnO y)) by ac_rfl)
  have HIn := Lib.hid (finfo_calls y.xb fb k a m w _ S2)
  have S2 := Lib.hid (S2.perm (show _ = fsHp fb mb F * (pts y.xb (flO fb k a m) * (X * R * pts y.b (hnO y))) by ac_rfl))
  obtain ⟨en, hen⟩ : ∃ en, en = (writeP F k x (atW x a m) d).1 := ⟨_, rfl⟩
  obtain ⟨F', hF'⟩ : ∃ F', F' = (writeP F k x (atW x a m) d).2 := ⟨_, rfl⟩
  obtain ⟨a2, ha2⟩ : ∃ a2, a2 = atN F k x a m d := ⟨_, rfl⟩
  have ha3 : (if (writeP F k x (atW x a m) d).1 = 0 then ((atW x a m : Nat) : Int) + (d.size : Int) else ((atW x a m : Nat) : Int)) = (a2 : Int) := by
    rw [ha2]; unfold atN; split <;> simp
  have HFW := Lib.hid (fun W hW => fwrite_calls y.xb fb mb F k a m x d hk ha hd hs hx h2 hkid hu hr W (X * R * pts y.b (hnO y)) hW)
  rw [← hen, ← hF', ← ha2]
  have Hen := Lib.hid (And.intro hen (And.intro hF' ha3))
  have Back := Lib.hid back
  have Hyt := Lib.hid hyt
  obtain ⟨mr, mw, mm⟩ := m
  dsimp only at hmw
  subst hmw
  clear h S1 back hen hF' ha2 ha3 hyt hy hs hx
  have hf1 := field_mode 1 0 a k mr true mm
  have hf2 := field_w mr true mm
  go_enter Tryz.func63, Tryz.ntmps63
  go_wp2_with fail
  refine HGt.out.mono ?_
  rintro e w1 ⟨rfl, rfl⟩
  go_wp2_with fail
  refine HIn.out.mono ?_
  rintro e w1 ⟨rfl, hB⟩
  have S3 := S2.out.below hB
  have R3 := Lib.hid (below_ran hB)
  obtain ⟨e0, e1⟩ := hn_cells (S3.perm (show _ = pts y.b (hnO y) * (fsHp fb mb F * (pts y.xb (flO fb k a ⟨mr, true, mm⟩) * (X * R))) by ac_rfl))
  rw [Hyt.out] at e1
  unfold thT at e1
  have HW := HFW.out _ S3
  rw [Hen.out.2.2, ← Hen.out.1, ← Hen.out.2.1] at HW
  have HW := Lib.hid HW
  clear hB HIn HFW HGt d0 d1 S3 S2
  go_wp2_with fail
  refine HW.out.mono ?_
  rintro e w2 ⟨⟨rfl, S4⟩, R4⟩
  have R4 := Lib.hid (Below.trans R3.out R4)
  have S5 := Lib.hid (Back.out w2 { y with t := .file k a2 ⟨mr, true, mm⟩ } (fsHp fb mb F' * R) rfl (S4.perm (show _ = pts y.b (hnO { y with t := .file k a2 ⟨mr, true, mm⟩ }) * (pts y.xb (flO fb k a2 ⟨mr, true, mm⟩) * (X * (fsHp fb mb F' * R))) by
    rw [show hnO { y with t := .file k a2 ⟨mr, true, mm⟩ } = hnO y by unfold hnO; rw [Hyt.out]; rfl]
    ac_rfl)))
  clear S4 HW
  go_wp2_with fail
  go_ret
  exact ⟨⟨rfl, S5.out.perm (by ac_rfl)⟩, R4.out⟩
end Go.Proofs.YteienbdbhnikbaaGreatDoor.Hd

namespace Go.Proofs.YteienbdbhnikbaaGreatDoor.Hd
open Go.RowKit Go.Maps Go.Proofs.YteienbdbhnikbaaGreatDoor Go.Proofs.YteienbdbhnikbaaGreatDoor.Hp
set_option linter.unusedVariables false
attribute [local go_sem] Oper.semAt_some

set_option maxRecDepth 100000 in
set_option maxHeartbeats 4000000 in
theorem Ref_calls (tb fb pb hm n : Nat) (L : HL) (id : Int) (y : Hn) (hid : I64 id) (hy : findA L id = some y) (h1 : 0 ≤ y.refs) (h2 : y.refs ≤ 1000000) (w : World) (R : Hp) (h : Sat w (tabHp tb fb pb hm L n * R)) :
    Calls Tryz.prog 50 #[pp tb, .int .i64 id] w fun e w' => (e = .returned (.int .i64 0) ∧ Sat w' (tabHp tb fb pb hm (updA L id { y with refs := y.refs + 1 }) n * R)) ∧ Ran w w' := by
  have HGt := get_calls tb fb pb hm n L id hid w _ h
  unfold getE at HGt
  rw [show hblk L id = some y.b by unfold hblk; rw [hy]; rfl, hy] at HGt
  unfold pv at HGt
  have HGt := Lib.hid HGt
  obtain ⟨X, S1, back⟩ := tab_node h hy
  obtain ⟨d0, d1⟩ := hn_cells S1
  have f0 : ∀ i, w.frozen? ⟨y.b, i, none⟩ = false := fun i => free_at S1.get i
  have S2 := Lib.hid (back _ { y with refs := y.refs + 1 } R rfl (S1.set (i := 0) (.int .i64 (y.refs + 1))))
  clear h S1 back
  go_enter Tryz.func50, Tryz.ntmps50
  go_wp2_with fail
  refine HGt.out.mono ?_
  rintro e w1 ⟨rfl, rfl⟩
  go_wp2_with fail
  go_ret
  exact ⟨⟨rfl, S2.out⟩, Ran.set (Below.refl 0 w) _ _⟩
set_option maxRecDepth 100000 in
set_option maxHeartbeats 4000000 in
/-- Unref where refs are left. -/
theorem Unref_more (tb fb pb hm n : Nat) (L : HL) (id : Int) (y : Hn) (hid : I64 id) (hy : findA L id = some y) (h1 : 2 ≤ y.refs) (h2 : y.refs ≤ 1000000) (w : World) (R : Hp) (h : Sat w (tabHp tb fb pb hm L n * R)) :
    Calls Tryz.prog 52 #[pp tb, .int .i64 id] w fun e w' => (e = .returned (.int .i64 0) ∧ Sat w' (tabHp tb fb pb hm (updA L id { y with refs := y.refs - 1 }) n * R)) ∧ Ran w w' := by
  have HGt := get_calls tb fb pb hm n L id hid w _ h
  unfold getE at HGt
  rw [show hblk L id = some y.b by unfold hblk; rw [hy]; rfl, hy] at HGt
  unfold pv at HGt
  have HGt := Lib.hid HGt
  obtain ⟨X, S1, back⟩ := tab_node h hy
  obtain ⟨d0, d1⟩ := hn_cells S1
  have f0 : ∀ i, w.frozen? ⟨y.b, i, none⟩ = false := fun i => free_at S1.get i
  have S2 := Lib.hid (back _ { y with refs := y.refs - 1 } R rfl (S1.set (i := 0) (.int .i64 (y.refs - 1))))
  have hne : ¬ y.refs - 1 = 0 := by omega
  have hnb : (y.refs - 1 == 0) = false := by simp [hne]
  clear h S1 back
  go_enter Tryz.func52, Tryz.ntmps52
  go_wp2_with fail
  refine HGt.out.mono ?_
  rintro e w1 ⟨rfl, rfl⟩
  go_wp2_with fail
  go_ret
  exact ⟨⟨rfl, S2.out⟩, Ran.set (Below.refl 0 w) _ _⟩
end Go.Proofs.YteienbdbhnikbaaGreatDoor.Hd

namespace Go.Proofs.YteienbdbhnikbaaGreatDoor.Hd
open Go.RowKit Go.Maps Go.Proofs.YteienbdbhnikbaaGreatDoor Go.Proofs.YteienbdbhnikbaaGreatDoor.Hp
set_option linter.unusedVariables false
attribute [local go_sem] Oper.semAt_some

def NodupK (L : HL) : Prop := (L.map Prod.fst).Nodup
theorem findA_del {α : Type} : ∀ (L : List (Int × α)) (k j : Int), (L.map Prod.fst).Nodup → findA (delA L k) j = if j = k then none else findA L j
  | [], k, j, _ => by unfold delA findA; simp
  | p :: L, k, j, h => by
    rw [List.map_cons, List.nodup_cons] at h
    unfold delA
    by_cases e : p.1 = k
    · rw [if_pos e]
      by_cases e2 : j = k
      · rw [if_pos e2]
        cases hf : findA L j with
        | none => rfl
        | some z => exact absurd (findA_mem L j (by rw [hf]; rfl)) (by rw [e2, ← e]; exact h.1)
      · rw [if_neg e2]
        show _ = (if p.1 = j then some p.2 else findA L j)
        rw [if_neg (fun h => e2 (by rw [← h, e]))]
    · rw [if_neg e]
      show (if p.1 = j then some p.2 else findA (delA L k) j) = if j = k then none else (if p.1 = j then some p.2 else findA L j)
      by_cases e2 : p.1 = j
      · rw [if_pos e2, if_pos e2, if_neg (fun h => e (by rw [e2, h]))]
      · rw [if_neg e2, if_neg e2, findA_del L k j h.2]
theorem delA_len {α : Type} : ∀ (L : List (Int × α)) (k : Int), (findA L k).isSome = true → (delA L k).length + 1 = L.length
  | [], k, h => by cases h
  | p :: L, k, h => by
    unfold findA at h
    unfold delA
    by_cases e : p.1 = k
    · rw [if_pos e]; rfl
    · rw [if_neg e] at h ⊢
      show (delA L k).length + 1 + 1 = L.length + 1
      rw [delA_len L k h]
theorem hblk_del {L : HL} (hn : NodupK L) (k : Int) : hblk (delA L k) = delP (hblk L) k := by
  funext j
  unfold hblk delP
  rw [findA_del L k j hn]
  by_cases e : j = k
  · rw [if_pos e, if_pos e]; rfl
  · rw [if_neg e, if_neg e]
-- KINDS{
set_option maxRecDepth 100000 in
set_option maxHeartbeats 4000000 in
/-- The last Unref, by what the thing's gone does. -/
theorem Unref_last_file (tb fb pb hm n : Nat) (L : HL) (id : Int) (y : Hn) (hid : I64 id) (hy : findA L id = some y) (hnd : NodupK L) (h1 : y.refs = 1) (w : World) (R R' : Hp)
    (hT : thT y.t = 159)
    (HG : ∀ W, Sat W (pts y.xb (thO fb y.t) * (tabHp tb fb pb hm (delA L id) n * R)) → Calls Tryz.prog 183 #[pp y.xb] W fun e w' => (e = .returned (.tuple #[]) ∧ Sat w' (tabHp tb fb pb hm (delA L id) n * R')) ∧ Ran W w')
    (h : Sat w (tabHp tb fb pb hm L n * R)) :
    Calls Tryz.prog 52 #[pp tb, .int .i64 id] w fun e w' => (e = .returned (.int .i64 0) ∧ Sat w' (tabHp tb fb pb hm (delA L id) n * R')) ∧ Ran w w' := by
  have HGt := get_calls tb fb pb hm n L id hid w _ h
  unfold getE at HGt
  rw [show hblk L id = some y.b by unfold hblk; rw [hy]; rfl, hy] at HGt
  unfold pv at HGt
  have HGt := Lib.hid HGt
  obtain ⟨X, e1, -, e3⟩ := focusA (hnHp fb) L id y hy
  have hlen := delA_len L id (by rw [hy]; rfl)
  have S1 := h.perm (show _ = pts y.b (hnO y) * (pmap hm (hblk L) ((delA L id).length + 1) n * (pts y.xb (thO fb y.t) * (pts tb (tbO fb pb hm) * (X * R)))) by unfold tabHp; rw [e1, ← hlen]; unfold hnHp; ac_rfl)
  obtain ⟨d0, d1⟩ := hn_cells S1
  rw [h1] at d0
  have f0 : ∀ i, w.frozen? ⟨y.b, i, none⟩ = false := fun i => free_at S1.get i
  have S2 := S1.set (i := 0) (.int .i64 0)
  obtain ⟨q0, q1⟩ := hn_cells (x := { y with refs := 0 }) S2
  have c2 : (w.setCell ⟨y.b, 0, none⟩ (.int .i64 0)).cell? ⟨tb, 2, none⟩ = some (.map (some hm)) := by
    rw [cell_at (S2.perm (show _ = pts tb (tbO fb pb hm) * (pts y.b (hnO { y with refs := 0 }) * (pmap hm (hblk L) ((delA L id).length + 1) n * (pts y.xb (thO fb y.t) * (X * R)))) by show pts y.b (hnO { y with refs := 0 }) * _ = _; ac_rfl)).get]; rfl
  obtain ⟨w2, hrun, S3, R3⟩ := pmap_del Tryz.underlying101 (S2.perm (show _ = pmap hm (hblk L) ((delA L id).length + 1) n * (pts y.b (hnO { y with refs := 0 }) * (pts y.xb (thO fb y.t) * (pts tb (tbO fb pb hm) * (X * R)))) by show pts y.b (hnO { y with refs := 0 }) * _ = _; ac_rfl)) id hid (by unfold hblk; rw [hy]; rfl) 0
  obtain ⟨x0, x1⟩ := hn_cells (x := { y with refs := 0 }) (S3.perm (show _ = pts y.b (hnO { y with refs := 0 }) * (pmap hm (delP (hblk L) id) (delA L id).length n * (pts y.xb (thO fb y.t) * (pts tb (tbO fb pb hm) * (X * R)))) by ac_rfl))
  have S4 := S3.perm (show _ = pts y.b (hnO { y with refs := 0 }) * (pts y.xb (thO fb y.t) * (tabHp tb fb pb hm (delA L id) n * R)) by unfold tabHp; rw [hblk_del hnd, e3]; ac_rfl)
  have HGo := Lib.hid (HG w2 S4.right)
  have R4 := Lib.hid (Below.trans (Ran.set (Below.refl 0 w) ⟨y.b, 0, none⟩ (.int .i64 0)) R3)
  have hmt := meth_file_gone y.xb
  dsimp only at q1 x1
  rw [hT] at d1 q1 x1
  clear h S1 S2 S3 S4 HG hT e1 e3 hlen R3
  go_enter Tryz.func52, Tryz.ntmps52
  go_wp2_with fail
  refine HGt.out.mono ?_
  rintro e w1 ⟨rfl, rfl⟩
  go_wp2_with fail
  refine HGo.out.mono ?_
  rintro e w3 ⟨⟨rfl, S5⟩, R5⟩
  have R5 := Lib.hid (Below.trans R4.out R5)
  have S5 := Lib.hid S5
  clear HGo R4
  go_wp2_with fail
  go_ret
  exact ⟨⟨rfl, S5.out⟩, R5.out⟩
end Go.Proofs.YteienbdbhnikbaaGreatDoor.Hd

