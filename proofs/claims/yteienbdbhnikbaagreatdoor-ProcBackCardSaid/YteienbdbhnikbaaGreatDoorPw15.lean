/- HandlesPlays, part 15 of 31: the texts NdXa PmA, joined by a program. -/
import Derived.Test.YteienbdbhnikbaaGreatDoorPw14
import Derived.Test.YteienbdbhnikbaaGreatDoorPw10
import Derived.Test.YteienbdbhnikbaaGreatDoorPw12
namespace Go.Proofs.YteienbdbhnikbaaGreatDoor.Hd
open Go.RowKit Go.Maps Go.Proofs.YteienbdbhnikbaaGreatDoor Go.Proofs.YteienbdbhnikbaaGreatDoor.Hp
set_option linter.unusedVariables false

theorem ref_fun {F : Fs} {j : Int} {s : ByteArray} {v u : Int} (h : Ref F j s v) (h' : Ref F j s u) : v = u := by
  obtain ⟨x, kd, h1, h2, h3⟩ := h
  obtain ⟨y, ke, g1, g2, g3⟩ := h'
  rw [h1] at g1; injection g1 with g1; subst g1
  rw [h2] at g2; injection g2 with g2; subst g2
  rw [h3] at g3; injection g3
section
variable {N : Nat} {F : Fs}
/-- A node turned: its bytes, how often it is held. -/
theorem TreeG.put (h : TreeG N F) {k : Int} {x : Nd} (hx : find F.L k = some x) (x' : Nd) (u : Int) (e1 : x'.kind = x.kind) (e2 : x'.kids = x.kids) (e3 : x'.par = x.par) (e4 : x'.names = x.names)
    (ht : x'.text.size ≤ 4096) (hh : 0 ≤ x'.holds ∧ x'.holds ≤ (N : Int) + 1) (hu : u + (x.text.size : Int) = F.used + (x'.text.size : Int)) (hr : u ≤ F.room) : TreeG (N + 1) { F.put k x' with used := u } := by
  have hf : ∀ j, find (upd F.L k x') j = if j = k then some x' else find F.L j := fun j => find_upd F.L k j x' (by rw [hx]; rfl)
  have back : ∀ j z, find (upd F.L k x') j = some z → ∃ z0, find F.L j = some z0 ∧ z.kind = z0.kind ∧ z.kids = z0.kids ∧ z.par = z0.par ∧ z.names = z0.names := fun j z hz => by
    rw [hf] at hz
    by_cases e : j = k
    · rw [if_pos e] at hz; injection hz with hz; subst hz
      exact ⟨x, by rw [e]; exact hx, e1, e2, e3, e4⟩
    · rw [if_neg e] at hz; exact ⟨z, hz, rfl, rfl, rfl, rfl⟩
  have forth : ∀ j z0, find F.L j = some z0 → ∃ z, find (upd F.L k x') j = some z ∧ z.kind = z0.kind ∧ z.kids = z0.kids ∧ z.par = z0.par ∧ z.names = z0.names := fun j z0 hz => by
    rw [hf]
    by_cases e : j = k
    · subst e
      rw [hx] at hz; injection hz with hz; subst hz
      exact ⟨x', if_pos rfl, e1, e2, e3, e4⟩
    · exact ⟨z0, by rw [if_neg e]; exact hz, rfl, rfl, rfl, rfl⟩
  have ref : ∀ j s v, Ref { F.put k x' with used := u } j s v ↔ Ref F j s v := fun j s v => by
    constructor
    · rintro ⟨z, kd, hz, hk, hv⟩
      obtain ⟨z0, h0, -, g, -, -⟩ := back j z hz
      exact ⟨z0, kd, h0, by rw [← g]; exact hk, hv⟩
    · rintro ⟨z, kd, hz, hk, hv⟩
      obtain ⟨z0, h0, -, g, -, -⟩ := forth j z hz
      exact ⟨z0, kd, h0, by rw [g]; exact hk, hv⟩
  refine { nd := ?_, rng := fun j z hz => ?_, root := ?_, kinds := fun j z hz => ?_, kid := fun j s v hr => ?_, uniq := fun i j s t v h1 h2 => ?_, par := fun j z hz hj => ?_, names := fun j z hz => ?_, bare := fun j z s v hz hj hn => ?_, each := fun j z hz => ?_, n := ?_, used := ?_, room := ⟨hr, h.room.2⟩ }
  · show ((upd F.L k x').map Prod.fst).Nodup
    rw [upd_updA, keys_upd]; exact h.nd
  · obtain ⟨z0, h0, -⟩ := back j z hz
    exact h.rng j z0 h0
  · obtain ⟨y, hy, hk, hp⟩ := h.root
    obtain ⟨z, hz, g1, -, g3, -⟩ := forth 1 y hy
    exact ⟨z, hz, by rw [g1]; exact hk, by rw [g3]; exact hp⟩
  · obtain ⟨z0, h0, g1, g2, -, -⟩ := back j z hz
    rw [g1, g2]; exact h.kinds j z0 h0
  · obtain ⟨h1, y, hy, hn⟩ := h.kid j s v ((ref j s v).1 hr)
    obtain ⟨z, hz, -, -, -, g⟩ := forth v y hy
    exact ⟨h1, z, hz, by rw [g]; exact hn⟩
  · exact h.uniq i j s t v ((ref _ _ _).1 h1) ((ref _ _ _).1 h2)
  · obtain ⟨z0, h0, -, -, g3, -⟩ := back j z hz
    rw [g3]
    rcases h.par j z0 h0 hj with e | ⟨s, e⟩
    · exact .inl e
    · exact .inr ⟨s, (ref _ _ _).2 e⟩
  · obtain ⟨z0, h0, -, -, -, g⟩ := back j z hz
    rw [g]; exact h.names j z0 h0
  · obtain ⟨z0, h0, -, -, -, g⟩ := back j z hz
    rw [ref]
    exact h.bare j z0 s v h0 hj (by rw [← g]; exact hn)
  · have hz := (hf j).symm.trans hz
    by_cases e : j = k
    · rw [if_pos e] at hz; injection hz with hz; subst hz
      refine ⟨ht, hh.1, by have := hh.2; omega, fun kd hkd => ?_⟩
      rw [e2] at hkd
      obtain ⟨-, -, -, h4⟩ := h.each k x hx
      exact ⟨Nat.le_succ_of_le (h4 kd hkd).1, Nat.le_succ_of_le (h4 kd hkd).2⟩
    · rw [if_neg e] at hz
      obtain ⟨h1, h2, h3, h4⟩ := h.each j z hz
      exact ⟨h1, h2, by omega, fun kd hkd => ⟨Nat.le_succ_of_le (h4 kd hkd).1, Nat.le_succ_of_le (h4 kd hkd).2⟩⟩
  · exact ⟨Nat.le_succ_of_le h.n.1, by show (upd F.L k x').length ≤ _; rw [upd_len]; exact Nat.le_succ_of_le h.n.2⟩
  · show u = (usedN (upd F.L k x') : Int)
    have := used_upd hx x'
    have := h.used
    omega
/-- A tree with one node more. -/
def madeG (F : Fs) (dir : Int) (x : Nd) (kd : Kd) (s : ByteArray) (g : Nat) (y : Nd) : Fs :=
  { F with L := ((g : Int), y) :: upd F.L dir { x with kids := some { kd with M := K.putM kd.M s (g : Int), sz := kd.sz + 1, n := kd.n + 1 } }, used := F.used + (y.text.size : Int), n := F.n + 1 }
/-- What a new node is like. -/
structure NewN (dir : Int) (y : Nd) : Prop where
  kinds : (y.kind = 1 ∧ ∃ kd, y.kids = some kd) ∨ ((y.kind = 2 ∨ y.kind = 3) ∧ y.kids = none)
  kids : ∀ kd, y.kids = some kd → (∀ s, kd.M s = none) ∧ kd.sz = 0 ∧ kd.n = 0
  par : y.par = 0 ∨ y.par = dir
  names : y.names = 1
  holds : y.holds = 0
  text : y.text.size ≤ 4096
theorem find_madeG {dir : Int} {x : Nd} (hx : find F.L dir = some x) (kd : Kd) (s : ByteArray) (g : Nat) (y : Nd) (j : Int) :
    find (madeG F dir x kd s g y).L j = if j = (g : Int) then some y else if j = dir then some { x with kids := some { kd with M := K.putM kd.M s (g : Int), sz := kd.sz + 1, n := kd.n + 1 } } else find F.L j := by
  unfold madeG
  dsimp only
  rw [find_cons, find_upd F.L dir j _ (by rw [hx]; rfl)]
theorem ref_madeG {dir : Int} {x : Nd} {kd : Kd} {s : ByteArray} {g : Nat} {y : Nd} (hx : find F.L dir = some x) (hk : x.kids = some kd) (hM : kd.M s = none) (hg : find F.L (g : Int) = none) (hy : NewN dir y) (j : Int) (t : ByteArray) (v : Int) :
    Ref (madeG F dir x kd s g y) j t v ↔ (j = dir ∧ t = s ∧ v = (g : Int)) ∨ Ref F j t v := by
  have hf := find_madeG hx kd s g y
  have hdg : dir ≠ (g : Int) := fun e => by rw [e, hg] at hx; cases hx
  constructor
  · rintro ⟨z, k0, hz, hk0, hv⟩
    rw [hf] at hz
    by_cases e1 : j = (g : Int)
    · rw [if_pos e1] at hz; injection hz with hz; subst hz
      rw [(hy.kids k0 hk0).1 t] at hv; cases hv
    rw [if_neg e1] at hz
    by_cases e2 : j = dir
    · rw [if_pos e2] at hz; injection hz with hz; subst hz
      injection hk0 with hk0; subst hk0
      have hv : (if t = s then some (g : Int) else kd.M t) = some v := hv
      by_cases e3 : t = s
      · rw [if_pos e3] at hv; injection hv with hv
        exact .inl ⟨e2, e3, hv.symm⟩
      · rw [if_neg e3] at hv
        exact .inr ⟨x, kd, by rw [e2]; exact hx, hk, hv⟩
    · rw [if_neg e2] at hz
      exact .inr ⟨z, k0, hz, hk0, hv⟩
  · rintro (⟨e1, e2, e3⟩ | ⟨z, k0, hz, hk0, hv⟩)
    · subst e1 e2 e3
      exact ⟨_, _, by rw [hf, if_neg hdg, if_pos rfl], rfl, if_pos rfl⟩
    · have e1 : j ≠ (g : Int) := fun e => by rw [e, hg] at hz; cases hz
      by_cases e2 : j = dir
      · subst e2
        rw [hx] at hz; injection hz with hz; subst hz
        rw [hk] at hk0; injection hk0 with hk0; subst hk0
        refine ⟨_, _, by rw [hf, if_neg e1, if_pos rfl], rfl, ?_⟩
        show (if t = s then some (g : Int) else kd.M t) = some v
        rw [if_neg (fun e => by rw [e, hM] at hv; cases hv)]
        exact hv
      · exact ⟨z, k0, by rw [hf, if_neg e1, if_neg e2]; exact hz, hk0, hv⟩
theorem TreeG.make (h : TreeG N F) (hN : N ≤ 900000) {dir : Int} {x : Nd} {kd : Kd} {s : ByteArray} {g : Nat} {y : Nd} (hx : find F.L dir = some x) (hk1 : x.kind = 1) (hk : x.kids = some kd) (hd : dir = 1 ∨ x.names = 1) (hM : kd.M s = none) (hg : FreeN F.L g) (hy : NewN dir y) (hr : F.used + (y.text.size : Int) ≤ F.room) :
    TreeG (N + 1) (madeG F dir x kd s g y) := by
  have hf := find_madeG hx kd s g y
  have ref := ref_madeG hx hk hM hg.none hy
  have hdg : dir ≠ (g : Int) := fun e => by have := hg.none; rw [← e, hx] at this; cases this
  have hg1 : (1 : Int) ≠ (g : Int) := fun e => by
    obtain ⟨r, hr, -⟩ := h.root
    have := hg.none
    rw [← e, hr] at this; cases this
  have forth : ∀ j z0, find F.L j = some z0 → ∃ z, find (madeG F dir x kd s g y).L j = some z ∧ z.kind = z0.kind ∧ z.par = z0.par ∧ z.names = z0.names := fun j z0 hz => by
    rw [hf, if_neg (fun e => by have := hg.none; rw [← e, hz] at this; cases this)]
    by_cases e : j = dir
    · subst e
      rw [hx] at hz; injection hz with hz; subst hz
      exact ⟨_, if_pos rfl, rfl, rfl, rfl⟩
    · exact ⟨z0, by rw [if_neg e]; exact hz, rfl, rfl, rfl⟩
  have cas : ∀ j z, find (madeG F dir x kd s g y).L j = some z → (j = (g : Int) ∧ z = y) ∨ (j = dir ∧ z = { x with kids := some { kd with M := K.putM kd.M s (g : Int), sz := kd.sz + 1, n := kd.n + 1 } }) ∨ (j ≠ dir ∧ find F.L j = some z) := fun j z hz => by
    rw [hf] at hz
    split at hz
    · rename_i e; injection hz with hz; exact .inl ⟨e, hz.symm⟩
    · split at hz
      · rename_i e; injection hz with hz; exact .inr (.inl ⟨e, hz.symm⟩)
      · rename_i e; exact .inr (.inr ⟨e, hz⟩)
  obtain ⟨hx1, hx2, hx3, hx4⟩ := h.each dir x hx
  refine { nd := ?_, rng := fun j z hz => ?_, root := ?_, kinds := fun j z hz => ?_, kid := fun j t v hr => ?_, uniq := fun i j t u v h1 h2 => ?_, par := fun j z hz hj => ?_, names := fun j z hz => ?_, bare := fun j z t v hz hj hn => ?_, each := fun j z hz => ?_, n := ?_, used := ?_, room := ⟨hr, h.room.2⟩ }
  · show ((((g : Int), y) :: upd F.L dir _).map Prod.fst).Nodup
    rw [upd_updA]
    refine nodup_cons (nodup_upd h.nd _ _) y ?_
    rw [findA_upd F.L dir (g : Int) _ (by rw [← find_findA, hx]; rfl), if_neg (fun e => hdg e.symm), ← find_findA]
    exact hg.none
  · rcases cas j z hz with ⟨e, -⟩ | ⟨e, -⟩ | ⟨-, e⟩
    · have := hg.pos; have := hg.le; have := h.n.2
      omega
    · rw [e]; exact h.rng dir x hx
    · exact h.rng j z e
  · obtain ⟨r, hr, hk, hp⟩ := h.root
    obtain ⟨z, hz, g1, g2, -⟩ := forth 1 r hr
    exact ⟨z, hz, by rw [g1]; exact hk, by rw [g2]; exact hp⟩
  · rcases cas j z hz with ⟨-, e⟩ | ⟨-, e⟩ | ⟨-, e⟩
    · rw [e]; exact hy.kinds
    · rw [e]; exact .inl ⟨hk1, _, rfl⟩
    · exact h.kinds j z e
  · rcases (ref j t v).1 hr with ⟨-, -, e⟩ | e
    · rw [e]
      exact ⟨fun e => hg1 e.symm, y, by rw [hf, if_pos rfl], hy.names⟩
    · obtain ⟨h1, y0, hy0, hn⟩ := h.kid j t v e
      obtain ⟨z, hz, -, -, g3⟩ := forth v y0 hy0
      exact ⟨h1, z, hz, by rw [g3]; exact hn⟩
  · rcases (ref i t v).1 h1 with ⟨a1, a2, a3⟩ | a <;> rcases (ref j u v).1 h2 with ⟨b1, b2, b3⟩ | b
    · exact ⟨a1.trans b1.symm, a2.trans b2.symm⟩
    · obtain ⟨-, y0, hy0, -⟩ := h.kid j u v b
      rw [a3, hg.none] at hy0; cases hy0
    · obtain ⟨-, y0, hy0, -⟩ := h.kid i t v a
      rw [b3, hg.none] at hy0; cases hy0
    · exact h.uniq i j t u v a b
  · rcases cas j z hz with ⟨e1, e⟩ | ⟨e1, e⟩ | ⟨-, e⟩
    · rw [e, e1]
      rcases hy.par with e2 | e2
      · exact .inl e2
      · rw [e2]; exact .inr ⟨s, (ref _ _ _).2 (.inl ⟨rfl, rfl, rfl⟩)⟩
    · rw [e]
      show x.par = 0 ∨ ∃ t, Ref _ x.par t j
      rcases h.par dir x hx (by rw [← e1]; exact hj) with e2 | ⟨t, e2⟩
      · exact .inl e2
      · exact .inr ⟨t, (ref _ _ _).2 (.inr (by rw [e1]; exact e2))⟩
    · rcases h.par j z e hj with e2 | ⟨t, e2⟩
      · exact .inl e2
      · exact .inr ⟨t, (ref _ _ _).2 (.inr e2)⟩
  · rcases cas j z hz with ⟨-, e⟩ | ⟨-, e⟩ | ⟨-, e⟩
    · rw [e]; exact .inr hy.names
    · rw [e]; exact h.names dir x hx
    · exact h.names j z e
  · rcases cas j z hz with ⟨-, e⟩ | ⟨e1, e⟩ | ⟨e1, e⟩
    · rw [e, hy.names] at hn; cases hn
    · rcases hd with e2 | e2
      · exact absurd (e1.trans e2) hj
      · rw [e] at hn; have hn : x.names = 0 := hn
        rw [e2] at hn; cases hn
    · intro hr
      rcases (ref j t v).1 hr with ⟨a1, -, -⟩ | a
      · exact e1 a1
      · exact h.bare j z t v e hj hn a
  · rcases cas j z hz with ⟨-, e⟩ | ⟨-, e⟩ | ⟨-, e⟩
    · rw [e]
      refine ⟨hy.text, by rw [hy.holds]; exact Int.le_refl _, by rw [hy.holds]; omega, fun kd' hkd => ?_⟩
      obtain ⟨-, a, b⟩ := hy.kids kd' hkd
      rw [a, b]; exact ⟨Nat.zero_le _, Nat.zero_le _⟩
    · rw [e]
      refine ⟨hx1, hx2, by show x.holds ≤ _; omega, fun kd' hkd => ?_⟩
      injection hkd with hkd; subst hkd
      exact ⟨Nat.succ_le_succ (hx4 kd hk).1, Nat.succ_le_succ (hx4 kd hk).2⟩
    · obtain ⟨h1, h2, h3, h4⟩ := h.each j z e
      exact ⟨h1, h2, by omega, fun kd hkd => ⟨Nat.le_succ_of_le (h4 kd hkd).1, Nat.le_succ_of_le (h4 kd hkd).2⟩⟩
  · refine ⟨Nat.succ_le_succ h.n.1, ?_⟩
    show (((g : Int), y) :: upd F.L dir _).length ≤ _
    rw [List.length_cons, upd_len]; exact Nat.succ_le_succ h.n.2
  · show F.used + (y.text.size : Int) = (usedN (((g : Int), y) :: upd F.L dir { x with kids := some { kd with M := K.putM kd.M s (g : Int), sz := kd.sz + 1, n := kd.n + 1 } }) : Int)
    have h1 := used_upd hx { x with kids := some { kd with M := K.putM kd.M s (g : Int), sz := kd.sz + 1, n := kd.n + 1 } }
    have h2 := h.used
    have h3 : usedN (((g : Int), y) :: upd F.L dir { x with kids := some { kd with M := K.putM kd.M s (g : Int), sz := kd.sz + 1, n := kd.n + 1 } }) = y.text.size + usedN (upd F.L dir { x with kids := some { kd with M := K.putM kd.M s (g : Int), sz := kd.sz + 1, n := kd.n + 1 } }) := rfl
    dsimp only at h1
    omega
/-- A tree with a name less. -/
def takenF (F : Fs) (d : Int) (x : Nd) (kd : Kd) (s : ByteArray) (n : Int) (y : Nd) : Fs :=
  { F with L := upd (upd F.L d { x with kids := some { kd with M := K.delM kd.M s, sz := kd.sz - 1 } }) n { y with names := y.names - 1, par := 0 } }
theorem find_taken {d n : Int} {x y : Nd} (hx : find F.L d = some x) (hy : find F.L n = some y) (kd : Kd) (s : ByteArray) (j : Int) :
    find (takenF F d x kd s n y).L j = if j = n then some { y with names := y.names - 1, par := 0 } else if j = d then some { x with kids := some { kd with M := K.delM kd.M s, sz := kd.sz - 1 } } else find F.L j := by
  unfold takenF
  dsimp only
  have h1 : ∀ j, find (upd F.L d { x with kids := some { kd with M := K.delM kd.M s, sz := kd.sz - 1 } }) j = if j = d then some { x with kids := some { kd with M := K.delM kd.M s, sz := kd.sz - 1 } } else find F.L j := fun j => find_upd F.L d j _ (by rw [hx]; rfl)
  rw [find_upd _ n j _ (by rw [h1]; split; rfl; rw [hy]; rfl), h1]
theorem ref_taken {d n : Int} {x y : Nd} {kd : Kd} {s : ByteArray} (hx : find F.L d = some x) (hk : x.kids = some kd) (hM : kd.M s = some n) (hy : find F.L n = some y) (hno : ∀ t v, ¬ Ref F n t v) (j : Int) (t : ByteArray) (v : Int) :
    Ref (takenF F d x kd s n y) j t v ↔ Ref F j t v ∧ ¬ (j = d ∧ t = s) := by
  have hf := find_taken hx hy kd s
  have hnd : n ≠ d := fun e => hno s n (by rw [e]; exact ⟨x, kd, hx, hk, by rw [← e]; exact hM⟩)
  constructor
  · rintro ⟨z, k0, hz, hk0, hv⟩
    rw [hf] at hz
    by_cases e1 : j = n
    · rw [if_pos e1] at hz; injection hz with hz; subst hz
      exact absurd ⟨y, k0, hy, hk0, hv⟩ (hno t v)
    rw [if_neg e1] at hz
    by_cases e2 : j = d
    · rw [if_pos e2] at hz; injection hz with hz; subst hz
      injection hk0 with hk0; subst hk0
      have hv : (if t = s then none else kd.M t) = some v := hv
      by_cases e3 : t = s
      · rw [if_pos e3] at hv; cases hv
      · rw [if_neg e3] at hv
        exact ⟨⟨x, kd, by rw [e2]; exact hx, hk, hv⟩, fun e => e3 e.2⟩
    · rw [if_neg e2] at hz
      exact ⟨⟨z, k0, hz, hk0, hv⟩, fun e => e2 e.1⟩
  · rintro ⟨⟨z, k0, hz, hk0, hv⟩, hne⟩
    have e1 : j ≠ n := fun e => hno t v (by rw [← e]; exact ⟨z, k0, hz, hk0, hv⟩)
    by_cases e2 : j = d
    · subst e2
      rw [hx] at hz; injection hz with hz; subst hz
      rw [hk] at hk0; injection hk0 with hk0; subst hk0
      refine ⟨_, _, by rw [hf, if_neg e1, if_pos rfl], rfl, ?_⟩
      show (if t = s then none else kd.M t) = some v
      rw [if_neg (fun e => hne ⟨rfl, e⟩)]
      exact hv
    · exact ⟨z, k0, by rw [hf, if_neg e1, if_neg e2]; exact hz, hk0, hv⟩
theorem TreeG.taken (h : TreeG N F) {d n : Int} {x y : Nd} {kd : Kd} {s : ByteArray} (hx : find F.L d = some x) (hk : x.kids = some kd) (hM : kd.M s = some n) (hy : find F.L n = some y) (hno : ∀ t v, ¬ Ref F n t v) : TreeG N (takenF F d x kd s n y) := by
  have hf := find_taken hx hy kd s
  have ref := ref_taken hx hk hM hy hno
  have hRd : Ref F d s n := ⟨x, kd, hx, hk, hM⟩
  have hnd : n ≠ d := fun e => hno s n (by rw [e]; exact ⟨x, kd, hx, hk, by rw [← e]; exact hM⟩)
  obtain ⟨hn1, y0, hy0, hny⟩ := h.kid d s n hRd
  rw [hy] at hy0; injection hy0 with hy0; subst hy0
  have forth : ∀ j z0, j ≠ n → find F.L j = some z0 → ∃ z, find (takenF F d x kd s n y).L j = some z ∧ z.kind = z0.kind ∧ z.par = z0.par ∧ z.names = z0.names := fun j z0 hj hz => by
    rw [hf, if_neg hj]
    by_cases e : j = d
    · subst e
      rw [hx] at hz; injection hz with hz; subst hz
      exact ⟨_, if_pos rfl, rfl, rfl, rfl⟩
    · exact ⟨z0, by rw [if_neg e]; exact hz, rfl, rfl, rfl⟩
  have cas : ∀ j z, find (takenF F d x kd s n y).L j = some z → (j = n ∧ z = { y with names := y.names - 1, par := 0 }) ∨ (j ≠ n ∧ j = d ∧ z = { x with kids := some { kd with M := K.delM kd.M s, sz := kd.sz - 1 } }) ∨ (j ≠ n ∧ find F.L j = some z) := fun j z hz => by
    rw [hf] at hz
    split at hz
    · rename_i e; injection hz with hz; exact .inl ⟨e, hz.symm⟩
    · rename_i e0
      split at hz
      · rename_i e; injection hz with hz; exact .inr (.inl ⟨e0, e, hz.symm⟩)
      · rename_i e; exact .inr (.inr ⟨e0, hz⟩)
  obtain ⟨hx1, hx2, hx3, hx4⟩ := h.each d x hx
  obtain ⟨hy1, hy2, hy3, hy4⟩ := h.each n y hy
  have old : ∀ p t j, j ≠ n → Ref F p t j → Ref (takenF F d x kd s n y) p t j := fun p t j hj hr => (ref _ _ _).2 ⟨hr, fun e => hj (by
    obtain ⟨e1, e2⟩ := e
    subst e1 e2
    exact ref_fun hr hRd)⟩
  refine { nd := ?_, rng := fun j z hz => ?_, root := ?_, kinds := fun j z hz => ?_, kid := fun j t v hr => ?_, uniq := fun i j t u v h1 h2 => ?_, par := fun j z hz hj => ?_, names := fun j z hz => ?_, bare := fun j z t v hz hj hn => ?_, each := fun j z hz => ?_, n := ?_, used := ?_, room := h.room }
  · show ((upd (upd F.L d _) n _).map Prod.fst).Nodup
    rw [upd_updA, keys_upd, upd_updA, keys_upd]
    exact h.nd
  · rcases cas j z hz with ⟨e, -⟩ | ⟨-, e, -⟩ | ⟨-, e⟩
    · rw [e]; exact h.rng n y hy
    · rw [e]; exact h.rng d x hx
    · exact h.rng j z e
  · obtain ⟨r, hr, hk, hp⟩ := h.root
    obtain ⟨z, hz, g1, g2, -⟩ := forth 1 r (fun e => hn1 e.symm) hr
    exact ⟨z, hz, by rw [g1]; exact hk, by rw [g2]; exact hp⟩
  · rcases cas j z hz with ⟨e, ez⟩ | ⟨-, e, ez⟩ | ⟨-, e⟩
    · rw [ez]; exact h.kinds n y hy
    · rw [ez]
      rcases h.kinds d x hx with ⟨a, -⟩ | ⟨-, a⟩
      · exact .inl ⟨a, _, rfl⟩
      · rw [hk] at a; cases a
    · exact h.kinds j z e
  · obtain ⟨hr1, hr2⟩ := (ref j t v).1 hr
    obtain ⟨h1, y1, hy1, hn⟩ := h.kid j t v hr1
    have hv : v ≠ n := fun e => hr2 (by rw [e] at hr1; exact h.uniq j d t s n hr1 hRd)
    obtain ⟨z, hz, -, -, g3⟩ := forth v y1 hv hy1
    exact ⟨h1, z, hz, by rw [g3]; exact hn⟩
  · exact h.uniq i j t u v ((ref _ _ _).1 h1).1 ((ref _ _ _).1 h2).1
  · rcases cas j z hz with ⟨e, ez⟩ | ⟨e0, e, ez⟩ | ⟨e0, e⟩
    · rw [ez]; exact .inl rfl
    · rw [ez]
      show x.par = 0 ∨ ∃ t, Ref _ x.par t j
      rcases h.par d x hx (by rw [← e]; exact hj) with e2 | ⟨t, e2⟩
      · exact .inl e2
      · exact .inr ⟨t, old _ _ _ e0 (by rw [e]; exact e2)⟩
    · rcases h.par j z e hj with e2 | ⟨t, e2⟩
      · exact .inl e2
      · exact .inr ⟨t, old _ _ _ e0 e2⟩
  · rcases cas j z hz with ⟨e, ez⟩ | ⟨-, e, ez⟩ | ⟨-, e⟩
    · rw [ez]; refine .inl ?_; show y.names - 1 = 0; omega
    · rw [ez]; exact h.names d x hx
    · exact h.names j z e
  · intro hr
    obtain ⟨hr1, hr2⟩ := (ref j t v).1 hr
    rcases cas j z hz with ⟨e, ez⟩ | ⟨-, e, ez⟩ | ⟨-, e⟩
    · rw [e] at hr1; exact hno t v hr1
    · rw [e] at hr1 hj
      rw [ez] at hn
      exact h.bare d x t v hx hj hn hr1
    · exact h.bare j z t v e hj hn hr1
  · rcases cas j z hz with ⟨e, ez⟩ | ⟨-, e, ez⟩ | ⟨-, e⟩
    · rw [ez]; exact ⟨hy1, hy2, hy3, hy4⟩
    · rw [ez]
      refine ⟨hx1, hx2, hx3, fun kd' hkd => ?_⟩
      injection hkd with hkd; subst hkd
      exact ⟨Nat.le_trans (Nat.sub_le _ _) (hx4 kd hk).1, (hx4 kd hk).2⟩
    · exact h.each j z e
  · refine ⟨h.n.1, ?_⟩
    show (upd (upd F.L d _) n _).length ≤ _
    rw [upd_len, upd_len]; exact h.n.2
  · show F.used = (usedN (upd (upd F.L d { x with kids := some { kd with M := K.delM kd.M s, sz := kd.sz - 1 } }) n { y with names := y.names - 1, par := 0 }) : Int)
    have h1 := used_upd hx { x with kids := some { kd with M := K.delM kd.M s, sz := kd.sz - 1 } }
    have hy' : find (upd F.L d { x with kids := some { kd with M := K.delM kd.M s, sz := kd.sz - 1 } }) n = some y := by
      rw [find_upd F.L d n _ (by rw [hx]; rfl), if_neg hnd]; exact hy
    have h2 := used_upd hy' { y with names := y.names - 1, par := 0 }
    have h3 := h.used
    dsimp only at h1 h2
    omega
/-- A tree with a node less. -/
def goneF (F : Fs) (k : Int) (x : Nd) : Fs := { F with L := delA F.L k, used := F.used - (x.text.size : Int) }
theorem find_gone (h : (F.L.map Prod.fst).Nodup) (k : Int) (x : Nd) (j : Int) : find (goneF F k x).L j = if j = k then none else find F.L j := by
  unfold goneF
  dsimp only
  rw [find_findA, findA_del F.L k j h, find_findA]
theorem TreeG.gone (h : TreeG N F) {k : Int} {x : Nd} (hx : find F.L k = some x) (hk : k ≠ 1) (hn : x.names = 0) : TreeG N (goneF F k x) := by
  have hf := find_gone h.nd k x
  have cas : ∀ j z, find (goneF F k x).L j = some z → j ≠ k ∧ find F.L j = some z := fun j z hz => by
    rw [hf] at hz
    split at hz
    · cases hz
    · rename_i e; exact ⟨e, hz⟩
  have forth : ∀ j z, j ≠ k → find F.L j = some z → find (goneF F k x).L j = some z := fun j z hj hz => by rw [hf, if_neg hj]; exact hz
  have ref : ∀ j s v, Ref (goneF F k x) j s v ↔ Ref F j s v := fun j s v => by
    constructor
    · rintro ⟨z, kd, hz, hk, hv⟩
      exact ⟨z, kd, (cas j z hz).2, hk, hv⟩
    · intro hr
      have hj : j ≠ k := fun e => h.bare k x s v hx hk hn (by rw [← e]; exact hr)
      obtain ⟨z, kd, hz, hk, hv⟩ := hr
      exact ⟨z, kd, forth j z hj hz, hk, hv⟩
  refine { nd := nodup_del h.nd k, rng := fun j z hz => h.rng j z (cas j z hz).2, root := ?_, kinds := fun j z hz => h.kinds j z (cas j z hz).2, kid := fun j t v hr => ?_, uniq := fun i j t u v h1 h2 => h.uniq i j t u v ((ref _ _ _).1 h1) ((ref _ _ _).1 h2), par := fun j z hz hj => ?_, names := fun j z hz => h.names j z (cas j z hz).2, bare := fun j z t v hz hj hn => ?_, each := fun j z hz => h.each j z (cas j z hz).2, n := ?_, used := ?_, room := ?_ }
  · obtain ⟨r, hr, hk1, hp⟩ := h.root
    exact ⟨r, forth 1 r (fun e => hk e.symm) hr, hk1, hp⟩
  · obtain ⟨h1, y1, hy1, hn1⟩ := h.kid j t v ((ref _ _ _).1 hr)
    refine ⟨h1, y1, forth v y1 (fun e => ?_) hy1, hn1⟩
    rw [e, hx] at hy1; injection hy1 with hy1; subst hy1
    rw [hn] at hn1; cases hn1
  · rcases h.par j z (cas j z hz).2 hj with e | ⟨s, e⟩
    · exact .inl e
    · exact .inr ⟨s, (ref _ _ _).2 e⟩
  · rw [ref]; exact h.bare j z t v (cas j z hz).2 hj hn
  · refine ⟨h.n.1, ?_⟩
    have := delA_len F.L k (by rw [← find_findA, hx]; rfl)
    have := h.n.2
    show (delA F.L k).length ≤ N
    omega
  · show F.used - (x.text.size : Int) = (usedN (delA F.L k) : Int)
    have h1 : usedN F.L = x.text.size + usedN (delA F.L k) := sumA_get _ F.L k x (by rw [← find_findA]; exact hx)
    have := h.used
    omega
  · refine ⟨?_, h.room.2⟩
    show F.used - (x.text.size : Int) ≤ F.room
    have := h.room.1
    omega
/-- A node that nothing names or holds goes. -/
def sweepG (F : Fs) (k : Int) (x : Nd) : Fs := if k ≠ 1 ∧ x.names = 0 ∧ x.holds = 0 then goneF F k x else F
theorem TreeG.sweep (h : TreeG N F) {k : Int} {x : Nd} (hx : find F.L k = some x) : TreeG N (sweepG F k x) := by
  unfold sweepG
  split
  · rename_i e; exact h.gone hx e.1 e.2.1
  · exact h
def dropG (F : Fs) (k : Int) : Fs := match find F.L k with
  | none => F
  | some x => if x.holds = 0 then F else sweepG (F.put k { x with holds := x.holds - 1 }) k { x with holds := x.holds - 1 }
theorem find_put' (F : Fs) (k j : Int) (x' : Nd) (h : (find F.L k).isSome = true) : find (F.put k x').L j = if j = k then some x' else find F.L j := find_upd F.L k j x' h
theorem TreeG.hold (h : TreeG N F) (k : Int) : TreeG (N + 1) (holdP F k) := by
  unfold holdP
  cases hx : find F.L k with
  | none => exact h.more (Nat.le_succ _)
  | some x =>
    obtain ⟨h1, h2, h3, h4⟩ := h.each k x hx
    exact h.put hx { x with holds := x.holds + 1 } F.used rfl rfl rfl rfl h1 ⟨by show (0 : Int) ≤ x.holds + 1; omega, by show x.holds + 1 ≤ _; omega⟩ rfl h.room.1
theorem TreeG.drop (h : TreeG N F) (k : Int) : TreeG (N + 1) (dropG F k) := by
  unfold dropG
  cases hx : find F.L k with
  | none => exact h.more (Nat.le_succ _)
  | some x =>
    dsimp only
    obtain ⟨h1, h2, h3, h4⟩ := h.each k x hx
    split
    · exact h.more (Nat.le_succ _)
    · rename_i h0
      have hp : TreeG (N + 1) (F.put k { x with holds := x.holds - 1 }) := h.put hx { x with holds := x.holds - 1 } F.used rfl rfl rfl rfl h1 ⟨by show (0 : Int) ≤ x.holds - 1; omega, by show x.holds - 1 ≤ _; omega⟩ rfl h.room.1
      exact hp.sweep (by rw [find_put' F k k _ (by rw [hx]; rfl), if_pos rfl])
end
end Go.Proofs.YteienbdbhnikbaaGreatDoor.Hd

namespace Go.Proofs.YteienbdbhnikbaaGreatDoor.Hd
open Go.RowKit Go.Maps Go.Proofs.YteienbdbhnikbaaGreatDoor Go.Proofs.YteienbdbhnikbaaGreatDoor.Hp
set_option linter.unusedVariables false

/-- A pipe: its buffer, its count of ends, where its bytes begin, its bytes. -/
structure Pp where
  bb : Nat
  eb : Nat
  frm : Nat
  data : List UInt8
def Pp.use (p : Pp) : Nat := Spill.cl 3 4 (p.frm + p.data.length) - Spill.gn 3 4 p.frm
def pipeHp (bp : Nat) (p : Pp) : Hp := Spill.bufX p.bb bp 3 4 p.frm p.data * pts p.eb (ebO 2)
def snkT : Th → Hp
  | .sink sp q cap l most => bufHp q cap l
  | _ => emp
/-- The state: the tree, the handles, how many there were at most, the pipe, what was put into it. -/
structure Sg where
  F : Fs
  L : HL
  n : Nat
  p : Pp
  tot : Nat
/-- Where it lies. -/
structure Pls where
  fb : Nat
  mb : Nat
  tb : Nat
  hm : Nat
  bp : Nat
def snksHp (L : HL) : Hp := all (fun p : Int × Hn => snkT p.2.t) L
def poolHp (c : Pls) (p : Pp) (tot : Nat) : Hp := Spill.poolX c.bp 40 3 4 p.data.length p.use 1 tot
def SgHp (c : Pls) (σ : Sg) : Hp := fsHp c.fb c.mb σ.F * (tabHp c.tb c.fb c.bp c.hm σ.L σ.n * (poolHp c σ.p σ.tot * (pipeHp c.bp σ.p * snksHp σ.L)))
theorem snks_same {L : HL} {k : Int} {y y' : Hn} (h : findA L k = some y) (h1 : snkT y'.t = snkT y.t) : snksHp (updA L k y') = snksHp L := by
  obtain ⟨X, e1, e2, _⟩ := focusA (fun x : Hn => snkT x.t) L k y h
  unfold snksHp
  rw [e2 y', e1]
  rw [h1]
theorem snks_del {L : HL} {k : Int} {y : Hn} (h : findA L k = some y) (h1 : snkT y.t = emp) : snksHp (delA L k) = snksHp L := by
  obtain ⟨X, e1, _, e3⟩ := focusA (fun x : Hn => snkT x.t) L k y h
  unfold snksHp
  rw [e3, e1]
  rw [h1, emp_sep]
theorem snks_cons (L : HL) (k : Int) (y : Hn) (h1 : snkT y.t = emp) : snksHp ((k, y) :: L) = snksHp L := by
  show snkT y.t * snksHp L = _
  rw [h1, emp_sep]
/-- A handle's refs; a node's holds; how often it is held beyond its files. -/
def rf (L : HL) (k : Int) : Int := match findA L k with
  | none => 0
  | some y => y.refs
def hf (F : Fs) (k : Int) : Int := match find F.L k with
  | none => 0
  | some x => x.holds
def cF (k : Int) (x : Hn) : Nat := match x.t with
  | .file j _ _ => if j = k then 1 else 0
  | _ => 0
def xt (s : Sg) (k : Int) : Int := hf s.F k - (sumA (cF k) s.L : Int)
def isF : Th → Bool
  | .file .. => true
  | _ => false
theorem rf_some {L : HL} {k : Int} {y : Hn} (h : findA L k = some y) : rf L k = y.refs := by unfold rf; rw [h]
theorem hf_of {F : Fs} {k : Int} {x : Nd} (h : find F.L k = some x) : hf F k = x.holds := by unfold hf; rw [h]
theorem hf_some {F : Fs} {k : Int} (h : 1 ≤ hf F k) : ∃ z, find F.L k = some z := by
  unfold hf at h
  cases hz : find F.L k with
  | none => rw [hz] at h; exact absurd h (by decide)
  | some z => exact ⟨z, rfl⟩
theorem rf_pos {L : HL} {k : Int} (h : 1 ≤ rf L k) : ∃ y, findA L k = some y := by
  unfold rf at h
  cases hz : findA L k with
  | none => rw [hz] at h; exact absurd h (by decide)
  | some z => exact ⟨z, rfl⟩
theorem cF_pos {L : HL} {k j : Int} {y : Hn} {a : Nat} {m : Md} (hy : findA L k = some y) (ht : y.t = .file j a m) : 1 ≤ sumA (cF j) L := by
  rw [sumA_get (cF j) L k y hy]
  have : cF j y = 1 := by unfold cF; rw [ht]; exact if_pos rfl
  omega
/-- What is true of a handle. -/
def ThOkG (F : Fs) (p : Pp) (x : Hn) : Prop := match x.t with
  | .file k a m => (∃ z, find F.L k = some z ∧ z.kind = 2) ∧ a ≤ 8192
  | .text s a => a ≤ s.size ∧ s.size ≤ 100
  | .sink sp q cap l most => SpOk sp x.xb ∧ l.length ≤ most ∧ most ≤ 1048576
  | .reader bb eb => bb = p.bb ∧ eb = p.eb
  | .writer bb eb => bb = p.bb ∧ eb = p.eb
/-- Nodes keep their kinds. -/
def Kp (F F' : Fs) : Prop := ∀ j z z', find F.L j = some z → find F'.L j = some z' → z'.kind = z.kind
theorem th_keep {F F' : Fs} {p p' : Pp} {x : Hn} (h : ThOkG F p x) (e1 : p'.bb = p.bb) (e2 : p'.eb = p.eb) (hk : Kp F F') (hin : ∀ j a m, x.t = .file j a m → 1 ≤ hf F' j) : ThOkG F' p' x := by
  unfold ThOkG at h ⊢
  cases ht : x.t with
  | file j a m =>
    rw [ht] at h
    obtain ⟨⟨z, hz, hz2⟩, ha⟩ := h
    obtain ⟨z', hz'⟩ := hf_some (hin j a m ht)
    exact ⟨⟨z', hz', by rw [hk j z z' hz hz']; exact hz2⟩, ha⟩
  | text s a => rw [ht] at h; exact h
  | sink sp q cap l most => rw [ht] at h; exact h
  | reader bb eb => rw [ht] at h; exact ⟨h.1.trans e1.symm, h.2.trans e2.symm⟩
  | writer bb eb => rw [ht] at h; exact ⟨h.1.trans e1.symm, h.2.trans e2.symm⟩
/-- What is true behind N calls. -/
structure InvT (N : Nat) (s : Sg) : Prop where
  tree : TreeG N s.F
  nd : NodupK s.L
  ids : ∀ k x, findA s.L k = some x → 1 ≤ k ∧ k ≤ (N : Int)
  refs : ∀ k x, findA s.L k = some x → 1 ≤ x.refs ∧ x.refs ≤ (N : Int)
  th : ∀ k x, findA s.L k = some x → ThOkG s.F s.p x
  cls : ∀ k x, findA s.L k = some x → (5 ≤ k ↔ isF x.t = true)
  pos : ∀ k, 0 ≤ xt s k
  len : s.L.length ≤ N ∧ s.n ≤ N
  pipe : s.p.frm + s.p.data.length ≤ s.tot ∧ s.p.data.length ≤ 40 ∧ s.tot ≤ 100 * N
section
variable {N : Nat} {s : Sg}
theorem InvT.more (h : InvT N s) {M : Nat} (hm : N ≤ M) : InvT M s :=
  { h with tree := h.tree.more hm, ids := fun k x hx => by have := h.ids k x hx; omega, refs := fun k x hx => by have := h.refs k x hx; omega, len := ⟨Nat.le_trans h.len.1 hm, Nat.le_trans h.len.2 hm⟩, pipe := ⟨h.pipe.1, h.pipe.2.1, by have := h.pipe.2.2; omega⟩ }
theorem InvT.node (h : InvT N s) {k j : Int} {y : Hn} {a : Nat} {m : Md} (hy : findA s.L k = some y) (ht : y.t = .file j a m) : ∃ z, find s.F.L j = some z ∧ z.kind = 2 ∧ 1 ≤ z.holds := by
  have h1 := h.th k y hy
  unfold ThOkG at h1
  rw [ht] at h1
  obtain ⟨⟨z, hz, hz2⟩, -⟩ := h1
  have h2 := cF_pos hy ht
  have h3 := h.pos j
  unfold xt at h3
  rw [hf_of hz] at h3
  exact ⟨z, hz, hz2, by omega⟩
theorem rf_upd {L : HL} {k : Int} {y : Hn} (hy : findA L k = some y) (y' : Hn) (j : Int) : rf (updA L k y') j = if j = k then y'.refs else rf L j := by
  unfold rf
  rw [findA_upd L k j y' (by rw [hy]; rfl)]
  by_cases e : j = k
  · rw [if_pos e, if_pos e]
  · rw [if_neg e, if_neg e]
theorem rf_cons (L : HL) (k : Int) (y : Hn) (j : Int) : rf ((k, y) :: L) j = if j = k then y.refs else rf L j := by
  unfold rf
  rw [findA_cons]
  by_cases e : j = k
  · rw [if_pos e, if_pos e]
  · rw [if_neg e, if_neg e]
theorem rf_del {L : HL} (h : NodupK L) (k j : Int) : rf (delA L k) j = if j = k then 0 else rf L j := by
  unfold rf
  rw [findA_del L k j h]
  by_cases e : j = k
  · rw [if_pos e, if_pos e]
  · rw [if_neg e, if_neg e]
/-- A handle turned, the tree and the pipe with it. -/
theorem InvT.upd (h : InvT N s) {k : Int} {y y' : Hn} (hy : findA s.L k = some y) (hr : 1 ≤ y'.refs ∧ y'.refs ≤ (N : Int) + 1) (hc : ∀ j, cF j y' = cF j y) (hi : isF y'.t = isF y.t) (F' : Fs) (p' : Pp) (t' : Nat) (hth : ThOkG F' p' y') (hT : TreeG (N + 1) F') (hh : ∀ j, hf F' j = hf s.F j) (hk : Kp s.F F')
    (e1 : p'.bb = s.p.bb) (e2 : p'.eb = s.p.eb) (hp : p'.frm + p'.data.length ≤ t' ∧ p'.data.length ≤ 40 ∧ t' ≤ 100 * (N + 1)) :
    InvT (N + 1) ⟨F', updA s.L k y', s.n, p', t'⟩ ∧ ∀ j, xt ⟨F', updA s.L k y', s.n, p', t'⟩ j = xt s j := by
  have hx : ∀ j, xt ⟨F', updA s.L k y', s.n, p', t'⟩ j = xt s j := fun j => by
    unfold xt
    dsimp only
    rw [hh, sumA_upd (cF j) s.L k y y' hy, hc j, sumA_get (cF j) s.L k y hy]
  have hf : ∀ j, findA (updA s.L k y') j = if j = k then some y' else findA s.L j := fun j => findA_upd s.L k j y' (by rw [hy]; rfl)
  have cas : ∀ j x, findA (updA s.L k y') j = some x → (j = k ∧ x = y') ∨ (j ≠ k ∧ findA s.L j = some x) := fun j x hx => by
    rw [hf] at hx
    split at hx
    · rename_i e; injection hx with hx; exact .inl ⟨e, hx.symm⟩
    · rename_i e; exact .inr ⟨e, hx⟩
  refine ⟨{ tree := hT, nd := nodup_upd h.nd _ _, ids := fun j x hx => ?_, refs := fun j x hx => ?_, th := fun j x hx => ?_, cls := fun j x hx => ?_, pos := fun j => by rw [hx]; exact h.pos j, len := ?_, pipe := hp }, hx⟩
  · rcases cas j x hx with ⟨e, -⟩ | ⟨-, e⟩
    · rw [e]; have := h.ids k y hy; omega
    · have := h.ids j x e; omega
  · rcases cas j x hx with ⟨-, e⟩ | ⟨-, e⟩
    · rw [e]; omega
    · have := h.refs j x e; omega
  · rcases cas j x hx with ⟨-, e⟩ | ⟨-, e⟩
    · rw [e]; exact hth
    · refine th_keep (h.th j x e) e1 e2 hk fun i a m ht => ?_
      obtain ⟨z, hz, -, h1⟩ := h.node e ht
      show 1 ≤ Hd.hf F' i
      rw [hh, hf_of hz]; exact h1
  · rcases cas j x hx with ⟨e0, e⟩ | ⟨-, e⟩
    · rw [e, e0, hi]; exact h.cls k y hy
    · exact h.cls j x e
  · exact ⟨by show (updA s.L k y').length ≤ _; rw [updA_len]; exact Nat.le_succ_of_le h.len.1, Nat.le_succ_of_le h.len.2⟩
/-- The tree turned: what is held stays, or one node is held once more, or less. -/
theorem InvT.turn (h : InvT N s) (F' : Fs) (hT : TreeG (N + 1) F') (hk : Kp s.F F') (hp : ∀ j, (sumA (cF j) s.L : Int) ≤ hf F' j) : InvT (N + 1) { s with F := F' } := by
  refine { tree := hT, nd := h.nd, ids := fun j x hx => ?_, refs := fun j x hx => ?_, th := fun j x hx => ?_, cls := h.cls, pos := fun j => ?_, len := ⟨Nat.le_succ_of_le h.len.1, Nat.le_succ_of_le h.len.2⟩, pipe := ⟨h.pipe.1, h.pipe.2.1, ?_⟩ }
  · have := h.ids j x hx; omega
  · have := h.refs j x hx; omega
  · refine th_keep (h.th j x hx) rfl rfl hk fun i a m ht => ?_
    have h1 := hp i
    have h2 : 1 ≤ sumA (cF i) s.L := cF_pos hx ht
    show 1 ≤ Hd.hf F' i
    omega
  · have h1 := hp j
    unfold xt
    show 0 ≤ Hd.hf F' j - (sumA (cF j) s.L : Int)
    omega
  · have := h.pipe.2.2
    show s.tot ≤ _
    omega
/-- The tree turned, and all is held as it was. -/
theorem InvT.same (h : InvT N s) (F' : Fs) (hT : TreeG (N + 1) F') (hk : Kp s.F F') (hh : ∀ j, hf F' j = hf s.F j) : InvT (N + 1) { s with F := F' } ∧ ∀ j, xt { s with F := F' } j = xt s j := by
  refine ⟨h.turn F' hT hk fun j => ?_, fun j => ?_⟩
  · have h1 := h.pos j
    unfold xt at h1
    rw [hh]; omega
  · unfold xt
    show Hd.hf F' j - _ = _
    rw [hh]
theorem sumA_cons (f : Hn → Nat) (k : Int) (y : Hn) (L : HL) : sumA f ((k, y) :: L) = f y + sumA f L := rfl
/-- A file opened. -/
theorem InvT.opened (h : InvT N s) {g : Nat} (hg : Free s.L g) (h5 : 5 ≤ g) {k : Int} {x : Nd} {m : Md} {hb xb : Nat} (hx : find s.F.L k = some x) (h2 : x.kind = 2) (F' : Fs) (hT : TreeG (N + 1) F') (hk : Kp s.F F') (hh : ∀ j, hf F' j = hf s.F j + if j = k then 1 else 0) :
    InvT (N + 1) { s with F := F', L := ((g : Int), ⟨hb, 1, xb, .file k 0 m⟩) :: s.L, n := s.n + 1 } ∧ ∀ j, xt { s with F := F', L := ((g : Int), (⟨hb, 1, xb, .file k 0 m⟩ : Hn)) :: s.L, n := s.n + 1 } j = xt s j := by
  obtain ⟨y, hy⟩ : ∃ y : Hn, y = ⟨hb, 1, xb, .file k 0 m⟩ := ⟨_, rfl⟩
  rw [← hy]
  have hx0 : ∀ j, xt { s with F := F', L := ((g : Int), y) :: s.L, n := s.n + 1 } j = xt s j := fun j => by
    unfold xt
    dsimp only
    rw [hh, sumA_cons, hy]
    show hf s.F j + _ - (((if k = j then 1 else 0) + sumA (cF j) s.L : Nat) : Int) = _
    by_cases e : j = k
    · rw [if_pos e, if_pos e.symm]; omega
    · rw [if_neg e, if_neg (fun h => e h.symm)]; omega
  have hf : ∀ j, findA (((g : Int), y) :: s.L) j = if j = (g : Int) then some y else findA s.L j := fun j => findA_cons s.L g j y
  have cas : ∀ j x, findA (((g : Int), y) :: s.L) j = some x → (j = (g : Int) ∧ x = y) ∨ findA s.L j = some x := fun j x hx => by
    rw [hf] at hx
    split at hx
    · rename_i e; injection hx with hx; exact .inl ⟨e, hx.symm⟩
    · exact .inr hx
  have gl := hg.le
  have gp := hg.pos
  have hl := h.len
  have hin : ∀ i, 1 ≤ Hd.hf s.F i → 1 ≤ Hd.hf F' i := fun i hi => by rw [hh]; split <;> omega
  refine ⟨{ tree := hT, nd := nodup_cons h.nd y hg.none, ids := fun j x hx => ?_, refs := fun j x hx => ?_, th := fun j x hx => ?_, cls := fun j x hx => ?_, pos := fun j => by rw [hx0]; exact h.pos j, len := ⟨Nat.succ_le_succ hl.1, Nat.succ_le_succ hl.2⟩, pipe := ⟨h.pipe.1, h.pipe.2.1, ?_⟩ }, hx0⟩
  · rcases cas j x hx with ⟨e, -⟩ | e
    · omega
    · have := h.ids j x e; omega
  · rcases cas j x hx with ⟨-, e⟩ | e
    · rw [e, hy]; refine ⟨Int.le_refl _, ?_⟩; show (1 : Int) ≤ _; omega
    · have := h.refs j x e; omega
  · rcases cas j x hx with ⟨-, e⟩ | e
    · rw [e, hy]
      show (∃ z, find F'.L k = some z ∧ z.kind = 2) ∧ 0 ≤ 8192
      have h1 : 1 ≤ Hd.hf F' k := by
        rw [hh, if_pos rfl]
        have := h.pos k
        unfold xt at this
        omega
      obtain ⟨z, hz⟩ := hf_some h1
      exact ⟨⟨z, hz, by rw [hk k _ z ‹_› hz]; exact h2⟩, Nat.zero_le _⟩
    · refine th_keep (h.th j x e) rfl rfl hk fun i a m ht => hin i ?_
      obtain ⟨z, hz, -, h1⟩ := h.node e ht
      rw [hf_of hz]; exact h1
  · rcases cas j x hx with ⟨e0, e⟩ | e
    · rw [e, e0, hy]; exact ⟨fun _ => rfl, fun _ => by omega⟩
    · exact h.cls j x e
  · have := h.pipe.2.2
    show s.tot ≤ _
    omega
/-- A file's last ref gone. -/
theorem InvT.gone (h : InvT N s) {id k : Int} {y : Hn} {a : Nat} {m : Md} (hy : findA s.L id = some y) (ht : y.t = .file k a m) (F' : Fs) (hT : TreeG (N + 1) F') (hk : Kp s.F F') (hh : ∀ j, hf F' j = hf s.F j - if j = k then 1 else 0) :
    InvT (N + 1) { s with F := F', L := delA s.L id } ∧ ∀ j, xt { s with F := F', L := delA s.L id } j = xt s j := by
  have hx0 : ∀ j, xt { s with F := F', L := delA s.L id } j = xt s j := fun j => by
    unfold xt
    dsimp only
    rw [hh, sumA_get (cF j) s.L id y hy]
    have : cF j y = if k = j then 1 else 0 := by unfold cF; rw [ht]
    rw [this]
    by_cases e : j = k
    · rw [if_pos e, if_pos e.symm]; omega
    · rw [if_neg e, if_neg (fun h => e h.symm)]; omega
  have cas : ∀ j x, findA (delA s.L id) j = some x → j ≠ id ∧ findA s.L j = some x := fun j x hx => by
    rw [findA_del s.L id j h.nd] at hx
    split at hx
    · cases hx
    · rename_i e; exact ⟨e, hx⟩
  have hpos : ∀ j, 0 ≤ xt { s with F := F', L := delA s.L id } j := fun j => by rw [hx0]; exact h.pos j
  refine ⟨{ tree := hT, nd := nodup_del h.nd _, ids := fun j x hx => ?_, refs := fun j x hx => ?_, th := fun j x hx => ?_, cls := fun j x hx => h.cls j x (cas j x hx).2, pos := hpos, len := ?_, pipe := ⟨h.pipe.1, h.pipe.2.1, ?_⟩ }, hx0⟩
  · have := h.ids j x (cas j x hx).2; omega
  · have := h.refs j x (cas j x hx).2; omega
  · refine th_keep (h.th j x (cas j x hx).2) rfl rfl hk fun i a m ht => ?_
    have h1 : 1 ≤ sumA (cF i) (delA s.L id) := cF_pos hx ht
    have h2 := hpos i
    unfold xt at h2
    dsimp only at h2
    show 1 ≤ Hd.hf F' i
    omega
  · have := delA_len s.L id (by rw [hy]; rfl)
    have := h.len
    refine ⟨?_, Nat.le_succ_of_le h.len.2⟩
    show (delA s.L id).length ≤ _
    omega
  · have := h.pipe.2.2
    show s.tot ≤ _
    omega
end
section
variable {N : Nat} {F : Fs}
theorem hf_put {k : Int} {x : Nd} (hx : find F.L k = some x) (x' : Nd) (u j : Int) : hf { F.put k x' with used := u } j = if j = k then x'.holds else hf F j := by
  unfold hf
  show (match find (upd F.L k x') j with | none => 0 | some x => x.holds) = _
  rw [find_upd F.L k j x' (by rw [hx]; rfl)]
  by_cases e : j = k
  · rw [if_pos e, if_pos e]
  · rw [if_neg e, if_neg e]
theorem kp_put {k : Int} {x : Nd} (hx : find F.L k = some x) (x' : Nd) (u : Int) (hk : x'.kind = x.kind) : Kp F { F.put k x' with used := u } := fun j z z' hz hz' => by
  have hz' : find (upd F.L k x') j = some z' := hz'
  rw [find_upd F.L k j x' (by rw [hx]; rfl)] at hz'
  split at hz'
  · rename_i e
    injection hz' with hz'
    rw [e, hx] at hz; injection hz with hz
    rw [← hz', ← hz]; exact hk
  · rw [hz] at hz'; injection hz' with hz'; rw [hz']
theorem kp_refl (F : Fs) : Kp F F := fun j z z' h1 h2 => by rw [h1] at h2; injection h2 with h2; rw [h2]
theorem hf_made {dir : Int} {x : Nd} {kd : Kd} {s : ByteArray} {g : Nat} {y : Nd} (hx : find F.L dir = some x) (hg : find F.L (g : Int) = none) (hy : y.holds = 0) (j : Int) : hf (madeG F dir x kd s g y) j = hf F j := by
  unfold hf
  rw [find_madeG hx]
  by_cases e1 : j = (g : Int)
  · rw [if_pos e1, e1, hg]; exact hy
  · rw [if_neg e1]
    by_cases e2 : j = dir
    · rw [if_pos e2, e2, hx]
    · rw [if_neg e2]
theorem kp_made {dir : Int} {x : Nd} {kd : Kd} {s : ByteArray} {g : Nat} {y : Nd} (hx : find F.L dir = some x) (hg : find F.L (g : Int) = none) : Kp F (madeG F dir x kd s g y) := fun j z z' hz hz' => by
  rw [find_madeG hx, if_neg (fun e => by rw [e, hg] at hz; cases hz)] at hz'
  split at hz'
  · rename_i e
    rw [e, hx] at hz; injection hz with hz; injection hz' with hz'
    rw [← hz', ← hz]
  · rw [hz] at hz'; injection hz' with hz'; rw [hz']
theorem hf_gone (h : (F.L.map Prod.fst).Nodup) {k : Int} {x : Nd} (hx : find F.L k = some x) (h0 : x.holds = 0) (j : Int) : hf (goneF F k x) j = hf F j := by
  unfold hf
  rw [find_gone h]
  by_cases e : j = k
  · rw [if_pos e, e, hx]; exact h0.symm
  · rw [if_neg e]
theorem kp_gone (h : (F.L.map Prod.fst).Nodup) (k : Int) (x : Nd) : Kp F (goneF F k x) := fun j z z' hz hz' => by
  rw [find_gone h] at hz'
  split at hz'
  · cases hz'
  · rw [hz] at hz'; injection hz' with hz'; rw [hz']
theorem hf_sweep (h : (F.L.map Prod.fst).Nodup) {k : Int} {x : Nd} (hx : find F.L k = some x) (j : Int) : hf (sweepG F k x) j = hf F j := by
  unfold sweepG
  split
  · rename_i e; exact hf_gone h hx e.2.2 j
  · rfl
theorem kp_sweep (h : (F.L.map Prod.fst).Nodup) (k : Int) (x : Nd) : Kp F (sweepG F k x) := by
  unfold sweepG
  split
  · exact kp_gone h k x
  · exact kp_refl F
theorem Kp.trans {F F' F'' : Fs} (h1 : Kp F F') (h2 : Kp F' F'') (hin : ∀ j z'', find F''.L j = some z'' → ∃ z', find F'.L j = some z') : Kp F F'' := fun j z z'' hz hz'' => by
  obtain ⟨z', hz'⟩ := hin j z'' hz''
  rw [h2 j z' z'' hz' hz'', h1 j z z' hz hz']
theorem sweep_in (h : (F.L.map Prod.fst).Nodup) (k : Int) (x : Nd) (j : Int) (z : Nd) (hz : find (sweepG F k x).L j = some z) : find F.L j = some z := by
  unfold sweepG at hz
  split at hz
  · rw [find_gone h] at hz
    split at hz
    · cases hz
    · exact hz
  · exact hz
theorem hf_taken {d n : Int} {x y : Nd} (hx : find F.L d = some x) (hy : find F.L n = some y) (kd : Kd) (s : ByteArray) (j : Int) : hf (takenF F d x kd s n y) j = hf F j := by
  unfold hf
  rw [find_taken hx hy]
  by_cases e1 : j = n
  · rw [if_pos e1, e1, hy]
  · rw [if_neg e1]
    by_cases e2 : j = d
    · rw [if_pos e2, e2, hx]
    · rw [if_neg e2]
theorem kp_taken {d n : Int} {x y : Nd} (hx : find F.L d = some x) (hy : find F.L n = some y) (kd : Kd) (s : ByteArray) : Kp F (takenF F d x kd s n y) := fun j z z' hz hz' => by
  rw [find_taken hx hy] at hz'
  split at hz'
  · rename_i e
    rw [e, hy] at hz; injection hz with hz; injection hz' with hz'
    rw [← hz', ← hz]
  · split at hz'
    · rename_i e
      rw [e, hx] at hz; injection hz with hz; injection hz' with hz'
      rw [← hz', ← hz]
    · rw [hz] at hz'; injection hz' with hz'; rw [hz']
theorem hf_hold {k : Int} {x : Nd} (hx : find F.L k = some x) (j : Int) : hf (holdP F k) j = hf F j + if j = k then 1 else 0 := by
  unfold holdP
  rw [hx]
  show hf { F.put k { x with holds := x.holds + 1 } with used := F.used } j = _
  rw [hf_put hx]
  by_cases e : j = k
  · rw [if_pos e, if_pos e, e, hf_of hx]
  · rw [if_neg e, if_neg e]; omega
theorem kp_hold (k : Int) : Kp F (holdP F k) := by
  unfold holdP
  cases hx : find F.L k with
  | none => exact kp_refl F
  | some x => exact kp_put hx _ F.used rfl
theorem nodup_put (h : (F.L.map Prod.fst).Nodup) (k : Int) (x : Nd) : ((F.put k x).L.map Prod.fst).Nodup := by
  show ((upd F.L k x).map Prod.fst).Nodup
  rw [upd_updA, keys_upd]; exact h
theorem hf_drop (h : (F.L.map Prod.fst).Nodup) {k : Int} {x : Nd} (hx : find F.L k = some x) (h0 : x.holds ≠ 0) (j : Int) : hf (dropG F k) j = hf F j - if j = k then 1 else 0 := by
  unfold dropG
  rw [hx]
  dsimp only
  rw [if_neg h0, hf_sweep (nodup_put h k _) (by rw [find_put' F k k _ (by rw [hx]; rfl), if_pos rfl])]
  show hf { F.put k { x with holds := x.holds - 1 } with used := F.used } j = _
  rw [hf_put hx]
  by_cases e : j = k
  · rw [if_pos e, if_pos e, e, hf_of hx]
  · rw [if_neg e, if_neg e]; omega
theorem kp_drop (h : (F.L.map Prod.fst).Nodup) (k : Int) : Kp F (dropG F k) := by
  unfold dropG
  cases hx : find F.L k with
  | none => exact kp_refl F
  | some x =>
    dsimp only
    split
    · exact kp_refl F
    · obtain ⟨F1, hF1⟩ : ∃ F1, F1 = F.put k { x with holds := x.holds - 1 } := ⟨_, rfl⟩
      have h1 : Kp F F1 := by rw [hF1]; exact kp_put hx { x with holds := x.holds - 1 } F.used rfl
      have h2 : (F1.L.map Prod.fst).Nodup := by rw [hF1]; exact nodup_put h k _
      rw [← hF1]
      exact Kp.trans h1 (kp_sweep h2 k _) fun j z hz => ⟨z, sweep_in h2 k _ j z hz⟩
end
end Go.Proofs.YteienbdbhnikbaaGreatDoor.Hd

