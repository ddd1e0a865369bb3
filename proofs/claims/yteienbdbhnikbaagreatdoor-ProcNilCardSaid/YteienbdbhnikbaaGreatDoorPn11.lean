/- HandlesPlays, part 11 of 18: the texts PmA HdSt HdCu HdKy, joined by a program. -/
import Derived.Test.YteienbdbhnikbaaGreatDoorPn8
import Derived.Test.YteienbdbhnikbaaGreatDoorPn10
import Derived.Test.YteienbdbhnikbaaGreatDoorPn6
import Derived.Test.YteienbdbhnikbaaGreatDoorPn7
import Derived.Test.YteienbdbhnikbaaGreatDoorIti
namespace Go.Proofs.YteienbdbhnikbaaGreatDoor.Hd
open Go.RowKit Go.Maps Go.Proofs.YteienbdbhnikbaaGreatDoor Go.Proofs.YteienbdbhnikbaaGreatDoor.Hp
set_option linter.unusedVariables false

/-- A pipe: its buffer, its count of ends, where its bytes begin, its bytes. -/
structure Pp where
  bb : Nat
  eb : Nat
  frm : Nat
  data : List UInt8
def Pp.use (p : Pp) : Nat := Spill.cl 3 4 (p.frm + p.data.length) - Spill.gn 3 4 p.frm
def pipeHp (bp : Nat) (p : Pp) : Hp := Spill.bufX p.bb bp 3 4 p.frm p.data * pts p.eb (ebO 2)
def snkT : Th → Hp
  | .sink sp q cap l most => bufHp q cap l
  | _ => emp
/-- The state: the tree, the handles, how many there were at most, the pipe, what was put into it. -/
structure Sg where
  F : Fs
  L : HL
  n : Nat
  p : Pp
  tot : Nat
/-- Where it lies. -/
structure Pls where
  fb : Nat
  mb : Nat
  tb : Nat
  hm : Nat
  bp : Nat
def snksHp (L : HL) : Hp := all (fun p : Int × Hn => snkT p.2.t) L
def poolHp (c : Pls) (p : Pp) (tot : Nat) : Hp := Spill.poolX c.bp 40 3 4 p.data.length p.use 1 tot
def SgHp (c : Pls) (σ : Sg) : Hp := fsHp c.fb c.mb σ.F * (tabHp c.tb c.fb c.bp c.hm σ.L σ.n * (poolHp c σ.p σ.tot * (pipeHp c.bp σ.p * snksHp σ.L)))
theorem snks_same {L : HL} {k : Int} {y y' : Hn} (h : findA L k = some y) (h1 : snkT y'.t = snkT y.t) : snksHp (updA L k y') = snksHp L := by
  obtain ⟨X, e1, e2, _⟩ := focusA (fun x : Hn => snkT x.t) L k y h
  unfold snksHp
  rw [e2 y', e1]
  rw [h1]
theorem snks_del {L : HL} {k : Int} {y : Hn} (h : findA L k = some y) (h1 : snkT y.t = emp) : snksHp (delA L k) = snksHp L := by
  obtain ⟨X, e1, _, e3⟩ := focusA (fun x : Hn => snkT x.t) L k y h
  unfold snksHp
  rw [e3, e1]
  rw [h1, emp_sep]
theorem snks_cons (L : HL) (k : Int) (y : Hn) (h1 : snkT y.t = emp) : snksHp ((k, y) :: L) = snksHp L := by
  show snkT y.t * snksHp L = _
  rw [h1, emp_sep]
/-- A handle's refs; a node's holds; how often it is held beyond its files. -/
def rf (L : HL) (k : Int) : Int := match findA L k with
  | none => 0
  | some y => y.refs
def hf (F : Fs) (k : Int) : Int := match find F.L k with
  | none => 0
  | some x => x.holds
def cF (k : Int) (x : Hn) : Nat := match x.t with
  | .file j _ _ => if j = k then 1 else 0
  | _ => 0
def xt (s : Sg) (k : Int) : Int := hf s.F k - (sumA (cF k) s.L : Int)
def isF : Th → Bool
  | .file .. => true
  | _ => false
theorem rf_some {L : HL} {k : Int} {y : Hn} (h : findA L k = some y) : rf L k = y.refs := by unfold rf; rw [h]
theorem hf_of {F : Fs} {k : Int} {x : Nd} (h : find F.L k = some x) : hf F k = x.holds := by unfold hf; rw [h]
theorem hf_some {F : Fs} {k : Int} (h : 1 ≤ hf F k) : ∃ z, find F.L k = some z := by
  unfold hf at h
  cases hz : find F.L k with
  | none => rw [hz] at h; exact absurd h (by decide)
  | some z => exact ⟨z, rfl⟩
theorem rf_pos {L : HL} {k : Int} (h : 1 ≤ rf L k) : ∃ y, findA L k = some y := by
  unfold rf at h
  cases hz : findA L k with
  | none => rw [hz] at h; exact absurd h (by decide)
  | some z => exact ⟨z, rfl⟩
theorem cF_pos {L : HL} {k j : Int} {y : Hn} {a : Nat} {m : Md} (hy : findA L k = some y) (ht : y.t = .file j a m) : 1 ≤ sumA (cF j) L := by
  rw [sumA_get (cF j) L k y hy]
  have : cF j y = 1 := by unfold cF; rw [ht]; exact if_pos rfl
  omega
/-- What is true of a handle. -/
def ThOkG (F : Fs) (p : Pp) (x : Hn) : Prop := match x.t with
  | .file k a m => (∃ z, find F.L k = some z ∧ z.kind = 2) ∧ a ≤ 8192
  | .text s a => a ≤ s.size ∧ s.size ≤ 100
  | .sink sp q cap l most => SpOk sp x.xb ∧ l.length ≤ most ∧ most ≤ 1048576
  | .reader bb eb => bb = p.bb ∧ eb = p.eb
  | .writer bb eb => bb = p.bb ∧ eb = p.eb
/-- Nodes keep their kinds. -/
def Kp (F F' : Fs) : Prop := ∀ j z z', find F.L j = some z → find F'.L j = some z' → z'.kind = z.kind
theorem th_keep {F F' : Fs} {p p' : Pp} {x : Hn} (h : ThOkG F p x) (e1 : p'.bb = p.bb) (e2 : p'.eb = p.eb) (hk : Kp F F') (hin : ∀ j a m, x.t = .file j a m → 1 ≤ hf F' j) : ThOkG F' p' x := by
  unfold ThOkG at h ⊢
  cases ht : x.t with
  | file j a m =>
    rw [ht] at h
    obtain ⟨⟨z, hz, hz2⟩, ha⟩ := h
    obtain ⟨z', hz'⟩ := hf_some (hin j a m ht)
    exact ⟨⟨z', hz', by rw [hk j z z' hz hz']; exact hz2⟩, ha⟩
  | text s a => rw [ht] at h; exact h
  | sink sp q cap l most => rw [ht] at h; exact h
  | reader bb eb => rw [ht] at h; exact ⟨h.1.trans e1.symm, h.2.trans e2.symm⟩
  | writer bb eb => rw [ht] at h; exact ⟨h.1.trans e1.symm, h.2.trans e2.symm⟩
/-- What is true behind N calls. -/
structure InvT (N : Nat) (s : Sg) : Prop where
  tree : TreeG N s.F
  nd : NodupK s.L
  ids : ∀ k x, findA s.L k = some x → 1 ≤ k ∧ k ≤ (N : Int)
  refs : ∀ k x, findA s.L k = some x → 1 ≤ x.refs ∧ x.refs ≤ (N : Int)
  th : ∀ k x, findA s.L k = some x → ThOkG s.F s.p x
  cls : ∀ k x, findA s.L k = some x → (5 ≤ k ↔ isF x.t = true)
  pos : ∀ k, 0 ≤ xt s k
  len : s.L.length ≤ N ∧ s.n ≤ N
  pipe : s.p.frm + s.p.data.length ≤ s.tot ∧ s.p.data.length ≤ 40 ∧ s.tot ≤ 100 * N
section
variable {N : Nat} {s : Sg}
theorem InvT.more (h : InvT N s) {M : Nat} (hm : N ≤ M) : InvT M s :=
  { h with tree := h.tree.more hm, ids := fun k x hx => by have := h.ids k x hx; omega, refs := fun k x hx => by have := h.refs k x hx; omega, len := ⟨Nat.le_trans h.len.1 hm, Nat.le_trans h.len.2 hm⟩, pipe := ⟨h.pipe.1, h.pipe.2.1, by have := h.pipe.2.2; omega⟩ }
theorem InvT.node (h : InvT N s) {k j : Int} {y : Hn} {a : Nat} {m : Md} (hy : findA s.L k = some y) (ht : y.t = .file j a m) : ∃ z, find s.F.L j = some z ∧ z.kind = 2 ∧ 1 ≤ z.holds := by
  have h1 := h.th k y hy
  unfold ThOkG at h1
  rw [ht] at h1
  obtain ⟨⟨z, hz, hz2⟩, -⟩ := h1
  have h2 := cF_pos hy ht
  have h3 := h.pos j
  unfold xt at h3
  rw [hf_of hz] at h3
  exact ⟨z, hz, hz2, by omega⟩
theorem rf_upd {L : HL} {k : Int} {y : Hn} (hy : findA L k = some y) (y' : Hn) (j : Int) : rf (updA L k y') j = if j = k then y'.refs else rf L j := by
  unfold rf
  rw [findA_upd L k j y' (by rw [hy]; rfl)]
  by_cases e : j = k
  · rw [if_pos e, if_pos e]
  · rw [if_neg e, if_neg e]
theorem rf_cons (L : HL) (k : Int) (y : Hn) (j : Int) : rf ((k, y) :: L) j = if j = k then y.refs else rf L j := by
  unfold rf
  rw [findA_cons]
  by_cases e : j = k
  · rw [if_pos e, if_pos e]
  · rw [if_neg e, if_neg e]
theorem rf_del {L : HL} (h : NodupK L) (k j : Int) : rf (delA L k) j = if j = k then 0 else rf L j := by
  unfold rf
  rw [findA_del L k j h]
  by_cases e : j = k
  · rw [if_pos e, if_pos e]
  · rw [if_neg e, if_neg e]
/-- A handle turned, the tree and the pipe with it. -/
theorem InvT.upd (h : InvT N s) {k : Int} {y y' : Hn} (hy : findA s.L k = some y) (hr : 1 ≤ y'.refs ∧ y'.refs ≤ (N : Int) + 1) (hc : ∀ j, cF j y' = cF j y) (hi : isF y'.t = isF y.t) (F' : Fs) (p' : Pp) (t' : Nat) (hth : ThOkG F' p' y') (hT : TreeG (N + 1) F') (hh : ∀ j, hf F' j = hf s.F j) (hk : Kp s.F F')
    (e1 : p'.bb = s.p.bb) (e2 : p'.eb = s.p.eb) (hp : p'.frm + p'.data.length ≤ t' ∧ p'.data.length ≤ 40 ∧ t' ≤ 100 * (N + 1)) :
    InvT (N + 1) ⟨F', updA s.L k y', s.n, p', t'⟩ ∧ ∀ j, xt ⟨F', updA s.L k y', s.n, p', t'⟩ j = xt s j := by
  have hx : ∀ j, xt ⟨F', updA s.L k y', s.n, p', t'⟩ j = xt s j := fun j => by
    unfold xt
    dsimp only
    rw [hh, sumA_upd (cF j) s.L k y y' hy, hc j, sumA_get (cF j) s.L k y hy]
  have hf : ∀ j, findA (updA s.L k y') j = if j = k then some y' else findA s.L j := fun j => findA_upd s.L k j y' (by rw [hy]; rfl)
  have cas : ∀ j x, findA (updA s.L k y') j = some x → (j = k ∧ x = y') ∨ (j ≠ k ∧ findA s.L j = some x) := fun j x hx => by
    rw [hf] at hx
    split at hx
    · rename_i e; injection hx with hx; exact .inl ⟨e, hx.symm⟩
    · rename_i e; exact .inr ⟨e, hx⟩
  refine ⟨{ tree := hT, nd := nodup_upd h.nd _ _, ids := fun j x hx => ?_, refs := fun j x hx => ?_, th := fun j x hx => ?_, cls := fun j x hx => ?_, pos := fun j => by rw [hx]; exact h.pos j, len := ?_, pipe := hp }, hx⟩
  · rcases cas j x hx with ⟨e, -⟩ | ⟨-, e⟩
    · rw [e]; have := h.ids k y hy; omega
    · have := h.ids j x e; omega
  · rcases cas j x hx with ⟨-, e⟩ | ⟨-, e⟩
    · rw [e]; omega
    · have := h.refs j x e; omega
  · rcases cas j x hx with ⟨-, e⟩ | ⟨-, e⟩
    · rw [e]; exact hth
    · refine th_keep (h.th j x e) e1 e2 hk fun i a m ht => ?_
      obtain ⟨z, hz, -, h1⟩ := h.node e ht
      show 1 ≤ Hd.hf F' i
      rw [hh, hf_of hz]; exact h1
  · rcases cas j x hx with ⟨e0, e⟩ | ⟨-, e⟩
    · rw [e, e0, hi]; exact h.cls k y hy
    · exact h.cls j x e
  · exact ⟨by show (updA s.L k y').length ≤ _; rw [updA_len]; exact Nat.le_succ_of_le h.len.1, Nat.le_succ_of_le h.len.2⟩
/-- The tree turned: what is held stays, or one node is held once more, or less. -/
theorem InvT.turn (h : InvT N s) (F' : Fs) (hT : TreeG (N + 1) F') (hk : Kp s.F F') (hp : ∀ j, (sumA (cF j) s.L : Int) ≤ hf F' j) : InvT (N + 1) { s with F := F' } := by
  refine { tree := hT, nd := h.nd, ids := fun j x hx => ?_, refs := fun j x hx => ?_, th := fun j x hx => ?_, cls := h.cls, pos := fun j => ?_, len := ⟨Nat.le_succ_of_le h.len.1, Nat.le_succ_of_le h.len.2⟩, pipe := ⟨h.pipe.1, h.pipe.2.1, ?_⟩ }
  · have := h.ids j x hx; omega
  · have := h.refs j x hx; omega
  · refine th_keep (h.th j x hx) rfl rfl hk fun i a m ht => ?_
    have h1 := hp i
    have h2 : 1 ≤ sumA (cF i) s.L := cF_pos hx ht
    show 1 ≤ Hd.hf F' i
    omega
  · have h1 := hp j
    unfold xt
    show 0 ≤ Hd.hf F' j - (sumA (cF j) s.L : Int)
    omega
  · have := h.pipe.2.2
    show s.tot ≤ _
    omega
/-- The tree turned, and all is held as it was. -/
theorem InvT.same (h : InvT N s) (F' : Fs) (hT : TreeG (N + 1) F') (hk : Kp s.F F') (hh : ∀ j, hf F' j = hf s.F j) : InvT (N + 1) { s with F := F' } ∧ ∀ j, xt { s with F := F' } j = xt s j := by
  refine ⟨h.turn F' hT hk fun j => ?_, fun j => ?_⟩
  · have h1 := h.pos j
    unfold xt at h1
    rw [hh]; omega
  · unfold xt
    show Hd.hf F' j - _ = _
    rw [hh]
theorem sumA_cons (f : Hn → Nat) (k : Int) (y : Hn) (L : HL) : sumA f ((k, y) :: L) = f y + sumA f L := rfl
/-- A file opened. -/
theorem InvT.opened (h : InvT N s) {g : Nat} (hg : Free s.L g) (h5 : 5 ≤ g) {k : Int} {x : Nd} {m : Md} {hb xb : Nat} (hx : find s.F.L k = some x) (h2 : x.kind = 2) (F' : Fs) (hT : TreeG (N + 1) F') (hk : Kp s.F F') (hh : ∀ j, hf F' j = hf s.F j + if j = k then 1 else 0) :
    InvT (N + 1) { s with F := F', L := ((g : Int), ⟨hb, 1, xb, .file k 0 m⟩) :: s.L, n := s.n + 1 } ∧ ∀ j, xt { s with F := F', L := ((g : Int), (⟨hb, 1, xb, .file k 0 m⟩ : Hn)) :: s.L, n := s.n + 1 } j = xt s j := by
  obtain ⟨y, hy⟩ : ∃ y : Hn, y = ⟨hb, 1, xb, .file k 0 m⟩ := ⟨_, rfl⟩
  rw [← hy]
  have hx0 : ∀ j, xt { s with F := F', L := ((g : Int), y) :: s.L, n := s.n + 1 } j = xt s j := fun j => by
    unfold xt
    dsimp only
    rw [hh, sumA_cons, hy]
    show hf s.F j + _ - (((if k = j then 1 else 0) + sumA (cF j) s.L : Nat) : Int) = _
    by_cases e : j = k
    · rw [if_pos e, if_pos e.symm]; omega
    · rw [if_neg e, if_neg (fun h => e h.symm)]; omega
  have hf : ∀ j, findA (((g : Int), y) :: s.L) j = if j = (g : Int) then some y else findA s.L j := fun j => findA_cons s.L g j y
  have cas : ∀ j x, findA (((g : Int), y) :: s.L) j = some x → (j = (g : Int) ∧ x = y) ∨ findA s.L j = some x := fun j x hx => by
    rw [hf] at hx
    split at hx
    · rename_i e; injection hx with hx; exact .inl ⟨e, hx.symm⟩
    · exact .inr hx
  have gl := hg.le
  have gp := hg.pos
  have hl := h.len
  have hin : ∀ i, 1 ≤ Hd.hf s.F i → 1 ≤ Hd.hf F' i := fun i hi => by rw [hh]; split <;> omega
  refine ⟨{ tree := hT, nd := nodup_cons h.nd y hg.none, ids := fun j x hx => ?_, refs := fun j x hx => ?_, th := fun j x hx => ?_, cls := fun j x hx => ?_, pos := fun j => by rw [hx0]; exact h.pos j, len := ⟨Nat.succ_le_succ hl.1, Nat.succ_le_succ hl.2⟩, pipe := ⟨h.pipe.1, h.pipe.2.1, ?_⟩ }, hx0⟩
  · rcases cas j x hx with ⟨e, -⟩ | e
    · omega
    · have := h.ids j x e; omega
  · rcases cas j x hx with ⟨-, e⟩ | e
    · rw [e, hy]; refine ⟨Int.le_refl _, ?_⟩; show (1 : Int) ≤ _; omega
    · have := h.refs j x e; omega
  · rcases cas j x hx with ⟨-, e⟩ | e
    · rw [e, hy]
      show (∃ z, find F'.L k = some z ∧ z.kind = 2) ∧ 0 ≤ 8192
      have h1 : 1 ≤ Hd.hf F' k := by
        rw [hh, if_pos rfl]
        have := h.pos k
        unfold xt at this
        omega
      obtain ⟨z, hz⟩ := hf_some h1
      exact ⟨⟨z, hz, by rw [hk k _ z ‹_› hz]; exact h2⟩, Nat.zero_le _⟩
    · refine th_keep (h.th j x e) rfl rfl hk fun i a m ht => hin i ?_
      obtain ⟨z, hz, -, h1⟩ := h.node e ht
      rw [hf_of hz]; exact h1
  · rcases cas j x hx with ⟨e0, e⟩ | e
    · rw [e, e0, hy]; exact ⟨fun _ => rfl, fun _ => by omega⟩
    · exact h.cls j x e
  · have := h.pipe.2.2
    show s.tot ≤ _
    omega
/-- A file's last ref gone. -/
theorem InvT.gone (h : InvT N s) {id k : Int} {y : Hn} {a : Nat} {m : Md} (hy : findA s.L id = some y) (ht : y.t = .file k a m) (F' : Fs) (hT : TreeG (N + 1) F') (hk : Kp s.F F') (hh : ∀ j, hf F' j = hf s.F j - if j = k then 1 else 0) :
    InvT (N + 1) { s with F := F', L := delA s.L id } ∧ ∀ j, xt { s with F := F', L := delA s.L id } j = xt s j := by
  have hx0 : ∀ j, xt { s with F := F', L := delA s.L id } j = xt s j := fun j => by
    unfold xt
    dsimp only
    rw [hh, sumA_get (cF j) s.L id y hy]
    have : cF j y = if k = j then 1 else 0 := by unfold cF; rw [ht]
    rw [this]
    by_cases e : j = k
    · rw [if_pos e, if_pos e.symm]; omega
    · rw [if_neg e, if_neg (fun h => e h.symm)]; omega
  have cas : ∀ j x, findA (delA s.L id) j = some x → j ≠ id ∧ findA s.L j = some x := fun j x hx => by
    rw [findA_del s.L id j h.nd] at hx
    split at hx
    · cases hx
    · rename_i e; exact ⟨e, hx⟩
  have hpos : ∀ j, 0 ≤ xt { s with F := F', L := delA s.L id } j := fun j => by rw [hx0]; exact h.pos j
  refine ⟨{ tree := hT, nd := nodup_del h.nd _, ids := fun j x hx => ?_, refs := fun j x hx => ?_, th := fun j x hx => ?_, cls := fun j x hx => h.cls j x (cas j x hx).2, pos := hpos, len := ?_, pipe := ⟨h.pipe.1, h.pipe.2.1, ?_⟩ }, hx0⟩
  · have := h.ids j x (cas j x hx).2; omega
  · have := h.refs j x (cas j x hx).2; omega
  · refine th_keep (h.th j x (cas j x hx).2) rfl rfl hk fun i a m ht => ?_
    have h1 : 1 ≤ sumA (cF i) (delA s.L id) := cF_pos hx ht
    have h2 := hpos i
    unfold xt at h2
    dsimp only at h2
    show 1 ≤ Hd.hf F' i
    omega
  · have := delA_len s.L id (by rw [hy]; rfl)
    have := h.len
    refine ⟨?_, Nat.le_succ_of_le h.len.2⟩
    show (delA s.L id).length ≤ _
    omega
  · have := h.pipe.2.2
    show s.tot ≤ _
    omega
end
section
variable {N : Nat} {F : Fs}
theorem hf_put {k : Int} {x : Nd} (hx : find F.L k = some x) (x' : Nd) (u j : Int) : hf { F.put k x' with used := u } j = if j = k then x'.holds else hf F j := by
  unfold hf
  show (match find (upd F.L k x') j with | none => 0 | some x => x.holds) = _
  rw [find_upd F.L k j x' (by rw [hx]; rfl)]
  by_cases e : j = k
  · rw [if_pos e, if_pos e]
  · rw [if_neg e, if_neg e]
theorem kp_put {k : Int} {x : Nd} (hx : find F.L k = some x) (x' : Nd) (u : Int) (hk : x'.kind = x.kind) : Kp F { F.put k x' with used := u } := fun j z z' hz hz' => by
  have hz' : find (upd F.L k x') j = some z' := hz'
  rw [find_upd F.L k j x' (by rw [hx]; rfl)] at hz'
  split at hz'
  · rename_i e
    injection hz' with hz'
    rw [e, hx] at hz; injection hz with hz
    rw [← hz', ← hz]; exact hk
  · rw [hz] at hz'; injection hz' with hz'; rw [hz']
theorem kp_refl (F : Fs) : Kp F F := fun j z z' h1 h2 => by rw [h1] at h2; injection h2 with h2; rw [h2]
theorem hf_made {dir : Int} {x : Nd} {kd : Kd} {s : ByteArray} {g : Nat} {y : Nd} (hx : find F.L dir = some x) (hg : find F.L (g : Int) = none) (hy : y.holds = 0) (j : Int) : hf (madeG F dir x kd s g y) j = hf F j := by
  unfold hf
  rw [find_madeG hx]
  by_cases e1 : j = (g : Int)
  · rw [if_pos e1, e1, hg]; exact hy
  · rw [if_neg e1]
    by_cases e2 : j = dir
    · rw [if_pos e2, e2, hx]
    · rw [if_neg e2]
theorem kp_made {dir : Int} {x : Nd} {kd : Kd} {s : ByteArray} {g : Nat} {y : Nd} (hx : find F.L dir = some x) (hg : find F.L (g : Int) = none) : Kp F (madeG F dir x kd s g y) := fun j z z' hz hz' => by
  rw [find_madeG hx, if_neg (fun e => by rw [e, hg] at hz; cases hz)] at hz'
  split at hz'
  · rename_i e
    rw [e, hx] at hz; injection hz with hz; injection hz' with hz'
    rw [← hz', ← hz]
  · rw [hz] at hz'; injection hz' with hz'; rw [hz']
theorem hf_gone (h : (F.L.map Prod.fst).Nodup) {k : Int} {x : Nd} (hx : find F.L k = some x) (h0 : x.holds = 0) (j : Int) : hf (goneF F k x) j = hf F j := by
  unfold hf
  rw [find_gone h]
  by_cases e : j = k
  · rw [if_pos e, e, hx]; exact h0.symm
  · rw [if_neg e]
theorem kp_gone (h : (F.L.map Prod.fst).Nodup) (k : Int) (x : Nd) : Kp F (goneF F k x) := fun j z z' hz hz' => by
  rw [find_gone h] at hz'
  split at hz'
  · cases hz'
  · rw [hz] at hz'; injection hz' with hz'; rw [hz']
theorem hf_sweep (h : (F.L.map Prod.fst).Nodup) {k : Int} {x : Nd} (hx : find F.L k = some x) (j : Int) : hf (sweepG F k x) j = hf F j := by
  unfold sweepG
  split
  · rename_i e; exact hf_gone h hx e.2.2 j
  · rfl
theorem kp_sweep (h : (F.L.map Prod.fst).Nodup) (k : Int) (x : Nd) : Kp F (sweepG F k x) := by
  unfold sweepG
  split
  · exact kp_gone h k x
  · exact kp_refl F
theorem Kp.trans {F F' F'' : Fs} (h1 : Kp F F') (h2 : Kp F' F'') (hin : ∀ j z'', find F''.L j = some z'' → ∃ z', find F'.L j = some z') : Kp F F'' := fun j z z'' hz hz'' => by
  obtain ⟨z', hz'⟩ := hin j z'' hz''
  rw [h2 j z' z'' hz' hz'', h1 j z z' hz hz']
theorem sweep_in (h : (F.L.map Prod.fst).Nodup) (k : Int) (x : Nd) (j : Int) (z : Nd) (hz : find (sweepG F k x).L j = some z) : find F.L j = some z := by
  unfold sweepG at hz
  split at hz
  · rw [find_gone h] at hz
    split at hz
    · cases hz
    · exact hz
  · exact hz
theorem hf_hold {k : Int} {x : Nd} (hx : find F.L k = some x) (j : Int) : hf (holdP F k) j = hf F j + if j = k then 1 else 0 := by
  unfold holdP
  rw [hx]
  show hf { F.put k { x with holds := x.holds + 1 } with used := F.used } j = _
  rw [hf_put hx]
  by_cases e : j = k
  · rw [if_pos e, if_pos e, e, hf_of hx]
  · rw [if_neg e, if_neg e]; omega
theorem kp_hold (k : Int) : Kp F (holdP F k) := by
  unfold holdP
  cases hx : find F.L k with
  | none => exact kp_refl F
  | some x => exact kp_put hx _ F.used rfl
theorem nodup_put (h : (F.L.map Prod.fst).Nodup) (k : Int) (x : Nd) : ((F.put k x).L.map Prod.fst).Nodup := by
  show ((upd F.L k x).map Prod.fst).Nodup
  rw [upd_updA, keys_upd]; exact h
theorem hf_drop (h : (F.L.map Prod.fst).Nodup) {k : Int} {x : Nd} (hx : find F.L k = some x) (h0 : x.holds ≠ 0) (j : Int) : hf (dropG F k) j = hf F j - if j = k then 1 else 0 := by
  unfold dropG
  rw [hx]
  dsimp only
  rw [if_neg h0, hf_sweep (nodup_put h k _) (by rw [find_put' F k k _ (by rw [hx]; rfl), if_pos rfl])]
  show hf { F.put k { x with holds := x.holds - 1 } with used := F.used } j = _
  rw [hf_put hx]
  by_cases e : j = k
  · rw [if_pos e, if_pos e, e, hf_of hx]
  · rw [if_neg e, if_neg e]; omega
theorem kp_drop (h : (F.L.map Prod.fst).Nodup) (k : Int) : Kp F (dropG F k) := by
  unfold dropG
  cases hx : find F.L k with
  | none => exact kp_refl F
  | some x =>
    dsimp only
    split
    · exact kp_refl F
    · obtain ⟨F1, hF1⟩ : ∃ F1, F1 = F.put k { x with holds := x.holds - 1 } := ⟨_, rfl⟩
      have h1 : Kp F F1 := by rw [hF1]; exact kp_put hx { x with holds := x.holds - 1 } F.used rfl
      have h2 : (F1.L.map Prod.fst).Nodup := by rw [hF1]; exact nodup_put h k _
      rw [← hF1]
      exact Kp.trans h1 (kp_sweep h2 k _) fun j z hz => ⟨z, sweep_in h2 k _ j z hz⟩
end
end Go.Proofs.YteienbdbhnikbaaGreatDoor.Hd

namespace Go.Proofs.YteienbdbhnikbaaGreatDoor.Hd
open Go.RowKit Go.Maps Go.Proofs.YteienbdbhnikbaaGreatDoor Go.Proofs.YteienbdbhnikbaaGreatDoor.Hp
set_option linter.unusedVariables false
attribute [local go_sem] Oper.semAt_some

set_option maxRecDepth 100000 in
set_option maxHeartbeats 8000000 in
theorem TStat_text (tb fb pb hm n : Nat) (L : HL) (id : Int) (y : Hn) (s : ByteArray) (a : Nat) (hid : I64 id) (hy : findA L id = some y) (hyt : y.t = .text s a) (w : World) (R : Hp)
    (h : Sat w (tabHp tb fb pb hm L n * R)) :
    Calls Tryz.prog 21 #[pp tb, .int .i64 id] w fun e w' => e = .returned (.tuple #[inV 2 y.refs a 0 ⟨false, false, false⟩, .int .i64 0]) ∧ Below w.heap.size w w' := by
  have S0 := (h.alloc (inO 0 0 0 0 ⟨false, false, false⟩)).perm (show _ = tabHp tb fb pb hm L n * (pts w.heap.size (inO 0 0 0 0 ⟨false, false, false⟩) * R) by ac_rfl)
  have hB0 := (Below.refl w.heap.size w).alloc (Nat.le_refl _) (inO 0 0 0 0 ⟨false, false, false⟩)
  have HGt := get_calls tb fb pb hm n L id hid _ _ S0
  unfold getE at HGt
  rw [show hblk L id = some y.b by unfold hblk; rw [hy]; rfl, hy] at HGt
  unfold pv at HGt
  have HGt := Lib.hid HGt
  obtain ⟨X, S1, back⟩ := tab_node S0 hy
  obtain ⟨d0, d1⟩ := hn_cells S1
  rw [hyt] at S1 d1
  unfold thT at d1
  unfold thO at S1
  have hmi := meth_text_info y.xb
  have S2 := S1.perm (show _ = pts y.xb (txO s a) * (X * (pts w.heap.size (inO 0 0 0 0 ⟨false, false, false⟩) * R) * pts y.b (hnO y)) by ac_rfl)
  have HIn := Lib.hid (tinfo_calls y.xb s a _ _ S2)
  have S2 := Lib.hid S2
  have hB0 := Lib.hid hB0
  clear h S0 S1 back hy
  go_enter Tryz.func21, Tryz.ntmps21
  go_wp2_with fail
  refine HGt.out.mono ?_
  rintro e w1 ⟨rfl, rfl⟩
  go_wp2_with fail
  refine HIn.out.mono ?_
  rintro e w1 ⟨rfl, hB⟩
  have S3 := (S2.out.below hB).alloc (inO 2 0 a 0 ⟨true, false, false⟩)
  have S4 := (S2.out.below hB).alloc (inO 2 y.refs a 0 ⟨true, false, false⟩)
  have S4z := (S2.out.below hB).alloc (inO 2 y.refs a 0 ⟨false, false, false⟩)
  obtain ⟨p0, p1⟩ := hn_cells (S3.perm (show _ = pts y.b (hnO y) * (pts w1.heap.size (inO 2 0 a 0 ⟨true, false, false⟩) * (pts y.xb (txO s a) * (X * (pts w.heap.size (inO 0 0 0 0 ⟨false, false, false⟩) * R)))) by ac_rfl))
  obtain ⟨u0, u1, u2, u3, u4, u5, u6⟩ := in_cells S4
  obtain ⟨v0, v1, v2, v3, v4, v5, v6⟩ := in_cells S4z
  have S5 := S4z.perm (show _ = pts w.heap.size (inO 0 0 0 0 ⟨false, false, false⟩) * (pts w1.heap.size (inO 2 y.refs a 0 ⟨false, false, false⟩) * (pts y.b (hnO y) * (pts y.xb (txO s a) * (X * R)))) by ac_rfl)
  obtain ⟨z0, z1, z2, z3, z4, z5, z6⟩ := in_cells S5
  have f0 : ∀ i, (w1.alloc (inO 2 y.refs a 0 ⟨false, false, false⟩)).frozen? ⟨w.heap.size, i, none⟩ = false := fun i => free_at S5.get i
  have S6 := ((((((S5.set (i := 0) (.int .i64 2)).set (i := 1) (.int .i64 y.refs)).set (i := 2) (.int .i64 a)).set (i := 3) (.int .i64 0)).set (i := 4) (.bool false)).set (i := 5) (.bool false)).set (i := 6) (.bool false)
  obtain ⟨r0, r1, r2, r3, r4, r5, r6⟩ := in_cells (k := 2) (rf := y.refs) (a := a) (n := 0) (m := ⟨false, false, false⟩) S6
  have hle : w.heap.size ≤ w1.heap.size := Nat.le_trans hB0.out.size hB.size
  have HB := Lib.hid (((((((((hB0.out.trans (hB.mono hB0.out.size)).alloc hle (inO 2 y.refs a 0 ⟨false, false, false⟩)).setCell (Nat.le_refl _) (p := ⟨w.heap.size, 0, none⟩) (.int .i64 2)).setCell (Nat.le_refl _) (p := ⟨w.heap.size, 1, none⟩) (.int .i64 y.refs)).setCell (Nat.le_refl _) (p := ⟨w.heap.size, 2, none⟩) (.int .i64 a)).setCell (Nat.le_refl _) (p := ⟨w.heap.size, 3, none⟩) (.int .i64 0)).setCell (Nat.le_refl _) (p := ⟨w.heap.size, 4, none⟩) (.bool false)).setCell (Nat.le_refl _) (p := ⟨w.heap.size, 5, none⟩) (.bool false)).setCell (Nat.le_refl _) (p := ⟨w.heap.size, 6, none⟩) (.bool false))
  dsimp only at z4 z5 z6 u4 u5 u6 v4 v5 v6 r4 r5 r6
  clear hB HIn HGt d0 d1 S3 S4 S4z S5 S6 S2 hB0 hle
  go_wp2_with fail
  refine bodyPost_ret (v := .tuple #[inV 2 y.refs a 0 ⟨false, false, false⟩, .int .i64 0]) (by simp [results, Tryz.results21, go_sem, r0, r1, r2, r3, r4, r5, r6]) rfl ⟨rfl, HB.out⟩
set_option maxRecDepth 100000 in
set_option maxHeartbeats 8000000 in
theorem TStat_sink (tb fb pb hm n : Nat) (L : HL) (id : Int) (y : Hn) (sp q : Option Addr) (cap : Nat) (l : List UInt8) (most : Nat) (hid : I64 id) (hy : findA L id = some y) (hyt : y.t = .sink sp q cap l most) (w : World) (R : Hp)
    (h : Sat w (tabHp tb fb pb hm L n * R)) :
    Calls Tryz.prog 21 #[pp tb, .int .i64 id] w fun e w' => e = .returned (.tuple #[inV 3 y.refs (l.length : Int) 0 ⟨false, false, false⟩, .int .i64 0]) ∧ Below w.heap.size w w' := by
  have S0 := (h.alloc (inO 0 0 0 0 ⟨false, false, false⟩)).perm (show _ = tabHp tb fb pb hm L n * (pts w.heap.size (inO 0 0 0 0 ⟨false, false, false⟩) * R) by ac_rfl)
  have hB0 := (Below.refl w.heap.size w).alloc (Nat.le_refl _) (inO 0 0 0 0 ⟨false, false, false⟩)
  have HGt := get_calls tb fb pb hm n L id hid _ _ S0
  unfold getE at HGt
  rw [show hblk L id = some y.b by unfold hblk; rw [hy]; rfl, hy] at HGt
  unfold pv at HGt
  have HGt := Lib.hid HGt
  obtain ⟨X, S1, back⟩ := tab_node S0 hy
  obtain ⟨d0, d1⟩ := hn_cells S1
  rw [hyt] at S1 d1
  unfold thT at d1
  unfold thO at S1
  have hmi := meth_sink_info y.xb
  have S2 := S1.perm (show _ = pts y.xb (skO sp q l.length cap most) * (X * (pts w.heap.size (inO 0 0 0 0 ⟨false, false, false⟩) * R) * pts y.b (hnO y)) by ac_rfl)
  have HIn := Lib.hid (sinfo_calls y.xb sp q l.length cap most _ _ S2)
  have S2 := Lib.hid S2
  have hB0 := Lib.hid hB0
  clear h S0 S1 back hy
  go_enter Tryz.func21, Tryz.ntmps21
  go_wp2_with fail
  refine HGt.out.mono ?_
  rintro e w1 ⟨rfl, rfl⟩
  go_wp2_with fail
  refine HIn.out.mono ?_
  rintro e w1 ⟨rfl, hB⟩
  have S3 := (S2.out.below hB).alloc (inO 3 0 (l.length : Int) 0 ⟨false, true, false⟩)
  have S4 := (S2.out.below hB).alloc (inO 3 y.refs (l.length : Int) 0 ⟨false, true, false⟩)
  have S4z := (S2.out.below hB).alloc (inO 3 y.refs (l.length : Int) 0 ⟨false, false, false⟩)
  obtain ⟨p0, p1⟩ := hn_cells (S3.perm (show _ = pts y.b (hnO y) * (pts w1.heap.size (inO 3 0 (l.length : Int) 0 ⟨false, true, false⟩) * (pts y.xb (skO sp q l.length cap most) * (X * (pts w.heap.size (inO 0 0 0 0 ⟨false, false, false⟩) * R)))) by ac_rfl))
  obtain ⟨u0, u1, u2, u3, u4, u5, u6⟩ := in_cells S4
  obtain ⟨v0, v1, v2, v3, v4, v5, v6⟩ := in_cells S4z
  have S5 := S4z.perm (show _ = pts w.heap.size (inO 0 0 0 0 ⟨false, false, false⟩) * (pts w1.heap.size (inO 3 y.refs (l.length : Int) 0 ⟨false, false, false⟩) * (pts y.b (hnO y) * (pts y.xb (skO sp q l.length cap most) * (X * R)))) by ac_rfl)
  obtain ⟨z0, z1, z2, z3, z4, z5, z6⟩ := in_cells S5
  have f0 : ∀ i, (w1.alloc (inO 3 y.refs (l.length : Int) 0 ⟨false, false, false⟩)).frozen? ⟨w.heap.size, i, none⟩ = false := fun i => free_at S5.get i
  have S6 := ((((((S5.set (i := 0) (.int .i64 3)).set (i := 1) (.int .i64 y.refs)).set (i := 2) (.int .i64 (l.length : Int))).set (i := 3) (.int .i64 0)).set (i := 4) (.bool false)).set (i := 5) (.bool false)).set (i := 6) (.bool false)
  obtain ⟨r0, r1, r2, r3, r4, r5, r6⟩ := in_cells (k := 3) (rf := y.refs) (a := (l.length : Int)) (n := 0) (m := ⟨false, false, false⟩) S6
  have hle : w.heap.size ≤ w1.heap.size := Nat.le_trans hB0.out.size hB.size
  have HB := Lib.hid (((((((((hB0.out.trans (hB.mono hB0.out.size)).alloc hle (inO 3 y.refs (l.length : Int) 0 ⟨false, false, false⟩)).setCell (Nat.le_refl _) (p := ⟨w.heap.size, 0, none⟩) (.int .i64 3)).setCell (Nat.le_refl _) (p := ⟨w.heap.size, 1, none⟩) (.int .i64 y.refs)).setCell (Nat.le_refl _) (p := ⟨w.heap.size, 2, none⟩) (.int .i64 (l.length : Int))).setCell (Nat.le_refl _) (p := ⟨w.heap.size, 3, none⟩) (.int .i64 0)).setCell (Nat.le_refl _) (p := ⟨w.heap.size, 4, none⟩) (.bool false)).setCell (Nat.le_refl _) (p := ⟨w.heap.size, 5, none⟩) (.bool false)).setCell (Nat.le_refl _) (p := ⟨w.heap.size, 6, none⟩) (.bool false))
  dsimp only at z4 z5 z6 u4 u5 u6 v4 v5 v6 r4 r5 r6
  clear hB HIn HGt d0 d1 S3 S4 S4z S5 S6 S2 hB0 hle
  go_wp2_with fail
  refine bodyPost_ret (v := .tuple #[inV 3 y.refs (l.length : Int) 0 ⟨false, false, false⟩, .int .i64 0]) (by simp [results, Tryz.results21, go_sem, r0, r1, r2, r3, r4, r5, r6]) rfl ⟨rfl, HB.out⟩
set_option maxRecDepth 100000 in
set_option maxHeartbeats 8000000 in
theorem TStat_reader (tb fb pb hm n : Nat) (L : HL) (id : Int) (y : Hn) (bb eb bp frm : Nat) (data : List UInt8) (hid : I64 id) (hy : findA L id = some y) (hyt : y.t = .reader bb eb) (hf : frm + data.length ≤ 1000000000) (w : World) (R : Hp)
    (h : Sat w (tabHp tb fb pb hm L n * (Spill.bufX bb bp 3 4 frm data * R))) :
    Calls Tryz.prog 21 #[pp tb, .int .i64 id] w fun e w' => e = .returned (.tuple #[inV 4 y.refs (data.length : Int) 0 ⟨false, false, false⟩, .int .i64 0]) ∧ Below w.heap.size w w' := by
  have S0 := (h.alloc (inO 0 0 0 0 ⟨false, false, false⟩)).perm (show _ = tabHp tb fb pb hm L n * (Spill.bufX bb bp 3 4 frm data * (pts w.heap.size (inO 0 0 0 0 ⟨false, false, false⟩) * R)) by ac_rfl)
  have hB0 := (Below.refl w.heap.size w).alloc (Nat.le_refl _) (inO 0 0 0 0 ⟨false, false, false⟩)
  have HGt := get_calls tb fb pb hm n L id hid _ _ S0
  unfold getE at HGt
  rw [show hblk L id = some y.b by unfold hblk; rw [hy]; rfl, hy] at HGt
  unfold pv at HGt
  have HGt := Lib.hid HGt
  obtain ⟨X, S1, back⟩ := tab_node S0 hy
  obtain ⟨d0, d1⟩ := hn_cells S1
  rw [hyt] at S1 d1
  unfold thT at d1
  unfold thO at S1
  have hmi := meth_reader_info y.xb
  have S2 := S1.perm (show _ = pts y.xb (rdO bb eb) * (Spill.bufX bb bp 3 4 frm data * (X * (pts w.heap.size (inO 0 0 0 0 ⟨false, false, false⟩) * R) * pts y.b (hnO y))) by ac_rfl)
  have HIn := Lib.hid (rinfo_calls y.xb bb eb bp frm data hf _ _ S2)
  have S2 := Lib.hid S2
  have hB0 := Lib.hid hB0
  clear h S0 S1 back hy
  go_enter Tryz.func21, Tryz.ntmps21
  go_wp2_with fail
  refine HGt.out.mono ?_
  rintro e w1 ⟨rfl, rfl⟩
  go_wp2_with fail
  refine HIn.out.mono ?_
  rintro e w1 ⟨rfl, hB⟩
  have S3 := (S2.out.below hB).alloc (inO 4 0 (data.length : Int) 0 ⟨true, false, false⟩)
  have S4 := (S2.out.below hB).alloc (inO 4 y.refs (data.length : Int) 0 ⟨true, false, false⟩)
  have S4z := (S2.out.below hB).alloc (inO 4 y.refs (data.length : Int) 0 ⟨false, false, false⟩)
  obtain ⟨p0, p1⟩ := hn_cells (S3.perm (show _ = pts y.b (hnO y) * (pts w1.heap.size (inO 4 0 (data.length : Int) 0 ⟨true, false, false⟩) * (pts y.xb (rdO bb eb) * (Spill.bufX bb bp 3 4 frm data * (X * (pts w.heap.size (inO 0 0 0 0 ⟨false, false, false⟩) * R))))) by ac_rfl))
  obtain ⟨u0, u1, u2, u3, u4, u5, u6⟩ := in_cells S4
  obtain ⟨v0, v1, v2, v3, v4, v5, v6⟩ := in_cells S4z
  have S5 := S4z.perm (show _ = pts w.heap.size (inO 0 0 0 0 ⟨false, false, false⟩) * (pts w1.heap.size (inO 4 y.refs (data.length : Int) 0 ⟨false, false, false⟩) * (pts y.b (hnO y) * (pts y.xb (rdO bb eb) * (Spill.bufX bb bp 3 4 frm data * (X * R))))) by ac_rfl)
  obtain ⟨z0, z1, z2, z3, z4, z5, z6⟩ := in_cells S5
  have f0 : ∀ i, (w1.alloc (inO 4 y.refs (data.length : Int) 0 ⟨false, false, false⟩)).frozen? ⟨w.heap.size, i, none⟩ = false := fun i => free_at S5.get i
  have S6 := ((((((S5.set (i := 0) (.int .i64 4)).set (i := 1) (.int .i64 y.refs)).set (i := 2) (.int .i64 (data.length : Int))).set (i := 3) (.int .i64 0)).set (i := 4) (.bool false)).set (i := 5) (.bool false)).set (i := 6) (.bool false)
  obtain ⟨r0, r1, r2, r3, r4, r5, r6⟩ := in_cells (k := 4) (rf := y.refs) (a := (data.length : Int)) (n := 0) (m := ⟨false, false, false⟩) S6
  have hle : w.heap.size ≤ w1.heap.size := Nat.le_trans hB0.out.size hB.size
  have HB := Lib.hid (((((((((hB0.out.trans (hB.mono hB0.out.size)).alloc hle (inO 4 y.refs (data.length : Int) 0 ⟨false, false, false⟩)).setCell (Nat.le_refl _) (p := ⟨w.heap.size, 0, none⟩) (.int .i64 4)).setCell (Nat.le_refl _) (p := ⟨w.heap.size, 1, none⟩) (.int .i64 y.refs)).setCell (Nat.le_refl _) (p := ⟨w.heap.size, 2, none⟩) (.int .i64 (data.length : Int))).setCell (Nat.le_refl _) (p := ⟨w.heap.size, 3, none⟩) (.int .i64 0)).setCell (Nat.le_refl _) (p := ⟨w.heap.size, 4, none⟩) (.bool false)).setCell (Nat.le_refl _) (p := ⟨w.heap.size, 5, none⟩) (.bool false)).setCell (Nat.le_refl _) (p := ⟨w.heap.size, 6, none⟩) (.bool false))
  dsimp only at z4 z5 z6 u4 u5 u6 v4 v5 v6 r4 r5 r6
  clear hB HIn HGt d0 d1 S3 S4 S4z S5 S6 S2 hB0 hle
  go_wp2_with fail
  refine bodyPost_ret (v := .tuple #[inV 4 y.refs (data.length : Int) 0 ⟨false, false, false⟩, .int .i64 0]) (by simp [results, Tryz.results21, go_sem, r0, r1, r2, r3, r4, r5, r6]) rfl ⟨rfl, HB.out⟩
set_option maxRecDepth 100000 in
set_option maxHeartbeats 8000000 in
theorem TStat_writer (tb fb pb hm n : Nat) (L : HL) (id : Int) (y : Hn) (bb eb bp frm : Nat) (data : List UInt8) (hid : I64 id) (hy : findA L id = some y) (hyt : y.t = .writer bb eb) (hf : frm + data.length ≤ 1000000000) (w : World) (R : Hp)
    (h : Sat w (tabHp tb fb pb hm L n * (Spill.bufX bb bp 3 4 frm data * R))) :
    Calls Tryz.prog 21 #[pp tb, .int .i64 id] w fun e w' => e = .returned (.tuple #[inV 5 y.refs (data.length : Int) 0 ⟨false, false, false⟩, .int .i64 0]) ∧ Below w.heap.size w w' := by
  have S0 := (h.alloc (inO 0 0 0 0 ⟨false, false, false⟩)).perm (show _ = tabHp tb fb pb hm L n * (Spill.bufX bb bp 3 4 frm data * (pts w.heap.size (inO 0 0 0 0 ⟨false, false, false⟩) * R)) by ac_rfl)
  have hB0 := (Below.refl w.heap.size w).alloc (Nat.le_refl _) (inO 0 0 0 0 ⟨false, false, false⟩)
  have HGt := get_calls tb fb pb hm n L id hid _ _ S0
  unfold getE at HGt
  rw [show hblk L id = some y.b by unfold hblk; rw [hy]; rfl, hy] at HGt
  unfold pv at HGt
  have HGt := Lib.hid HGt
  obtain ⟨X, S1, back⟩ := tab_node S0 hy
  obtain ⟨d0, d1⟩ := hn_cells S1
  rw [hyt] at S1 d1
  unfold thT at d1
  unfold thO at S1
  have hmi := meth_writer_info y.xb
  have S2 := S1.perm (show _ = pts y.xb (wrO bb eb) * (Spill.bufX bb bp 3 4 frm data * (X * (pts w.heap.size (inO 0 0 0 0 ⟨false, false, false⟩) * R) * pts y.b (hnO y))) by ac_rfl)
  have HIn := Lib.hid (winfo_calls y.xb bb eb bp frm data hf _ _ S2)
  have S2 := Lib.hid S2
  have hB0 := Lib.hid hB0
  clear h S0 S1 back hy
  go_enter Tryz.func21, Tryz.ntmps21
  go_wp2_with fail
  refine HGt.out.mono ?_
  rintro e w1 ⟨rfl, rfl⟩
  go_wp2_with fail
  refine HIn.out.mono ?_
  rintro e w1 ⟨rfl, hB⟩
  have S3 := (S2.out.below hB).alloc (inO 5 0 (data.length : Int) 0 ⟨false, true, false⟩)
  have S4 := (S2.out.below hB).alloc (inO 5 y.refs (data.length : Int) 0 ⟨false, true, false⟩)
  have S4z := (S2.out.below hB).alloc (inO 5 y.refs (data.length : Int) 0 ⟨false, false, false⟩)
  obtain ⟨p0, p1⟩ := hn_cells (S3.perm (show _ = pts y.b (hnO y) * (pts w1.heap.size (inO 5 0 (data.length : Int) 0 ⟨false, true, false⟩) * (pts y.xb (wrO bb eb) * (Spill.bufX bb bp 3 4 frm data * (X * (pts w.heap.size (inO 0 0 0 0 ⟨false, false, false⟩) * R))))) by ac_rfl))
  obtain ⟨u0, u1, u2, u3, u4, u5, u6⟩ := in_cells S4
  obtain ⟨v0, v1, v2, v3, v4, v5, v6⟩ := in_cells S4z
  have S5 := S4z.perm (show _ = pts w.heap.size (inO 0 0 0 0 ⟨false, false, false⟩) * (pts w1.heap.size (inO 5 y.refs (data.length : Int) 0 ⟨false, false, false⟩) * (pts y.b (hnO y) * (pts y.xb (wrO bb eb) * (Spill.bufX bb bp 3 4 frm data * (X * R))))) by ac_rfl)
  obtain ⟨z0, z1, z2, z3, z4, z5, z6⟩ := in_cells S5
  have f0 : ∀ i, (w1.alloc (inO 5 y.refs (data.length : Int) 0 ⟨false, false, false⟩)).frozen? ⟨w.heap.size, i, none⟩ = false := fun i => free_at S5.get i
  have S6 := ((((((S5.set (i := 0) (.int .i64 5)).set (i := 1) (.int .i64 y.refs)).set (i := 2) (.int .i64 (data.length : Int))).set (i := 3) (.int .i64 0)).set (i := 4) (.bool false)).set (i := 5) (.bool false)).set (i := 6) (.bool false)
  obtain ⟨r0, r1, r2, r3, r4, r5, r6⟩ := in_cells (k := 5) (rf := y.refs) (a := (data.length : Int)) (n := 0) (m := ⟨false, false, false⟩) S6
  have hle : w.heap.size ≤ w1.heap.size := Nat.le_trans hB0.out.size hB.size
  have HB := Lib.hid (((((((((hB0.out.trans (hB.mono hB0.out.size)).alloc hle (inO 5 y.refs (data.length : Int) 0 ⟨false, false, false⟩)).setCell (Nat.le_refl _) (p := ⟨w.heap.size, 0, none⟩) (.int .i64 5)).setCell (Nat.le_refl _) (p := ⟨w.heap.size, 1, none⟩) (.int .i64 y.refs)).setCell (Nat.le_refl _) (p := ⟨w.heap.size, 2, none⟩) (.int .i64 (data.length : Int))).setCell (Nat.le_refl _) (p := ⟨w.heap.size, 3, none⟩) (.int .i64 0)).setCell (Nat.le_refl _) (p := ⟨w.heap.size, 4, none⟩) (.bool false)).setCell (Nat.le_refl _) (p := ⟨w.heap.size, 5, none⟩) (.bool false)).setCell (Nat.le_refl _) (p := ⟨w.heap.size, 6, none⟩) (.bool false))
  dsimp only at z4 z5 z6 u4 u5 u6 v4 v5 v6 r4 r5 r6
  clear hB HIn HGt d0 d1 S3 S4 S4z S5 S6 S2 hB0 hle
  go_wp2_with fail
  refine bodyPost_ret (v := .tuple #[inV 5 y.refs (data.length : Int) 0 ⟨false, false, false⟩, .int .i64 0]) (by simp [results, Tryz.results21, go_sem, r0, r1, r2, r3, r4, r5, r6]) rfl ⟨rfl, HB.out⟩
set_option maxRecDepth 100000 in
set_option maxHeartbeats 4000000 in
theorem TStat_none (tb fb pb hm n : Nat) (L : HL) (id : Int) (hid : I64 id) (hy : findA L id = none) (w : World) (R : Hp) (h : Sat w (tabHp tb fb pb hm L n * R)) :
    Calls Tryz.prog 21 #[pp tb, .int .i64 id] w fun e w' => e = .returned (.tuple #[inV 0 0 0 0 ⟨false, false, false⟩, .int .i64 18]) ∧ Below w.heap.size w w' := by
  have S0 := (h.alloc (inO 0 0 0 0 ⟨false, false, false⟩)).perm (show _ = tabHp tb fb pb hm L n * (pts w.heap.size (inO 0 0 0 0 ⟨false, false, false⟩) * R) by ac_rfl)
  have HGt := get_calls tb fb pb hm n L id hid _ _ S0
  unfold getE at HGt
  rw [show hblk L id = none by unfold hblk; rw [hy]; rfl, hy] at HGt
  unfold pv at HGt
  have HGt := Lib.hid HGt
  have HB := Lib.hid ((Below.refl w.heap.size w).alloc (Nat.le_refl _) (inO 0 0 0 0 ⟨false, false, false⟩))
  obtain ⟨r0, r1, r2, r3, r4, r5, r6⟩ := in_cells ((Sat.start w).alloc (inO 0 0 0 0 ⟨false, false, false⟩))
  clear h hy S0
  go_enter Tryz.func21, Tryz.ntmps21
  go_wp2_with fail
  refine HGt.out.mono ?_
  rintro e w1 ⟨rfl, rfl⟩
  clear HGt
  go_wp2_with fail
  exact bodyPost_ret (v := .tuple #[inV 0 0 0 0 ⟨false, false, false⟩, .int .i64 18]) (by simp [results, Tryz.results21, go_sem, r0, r1, r2, r3, r4, r5, r6]) rfl ⟨rfl, HB.out⟩
end Go.Proofs.YteienbdbhnikbaaGreatDoor.Hd

namespace Go.Proofs.YteienbdbhnikbaaGreatDoor.Hd
open Go.RowKit Go.Maps Go.Proofs.YteienbdbhnikbaaGreatDoor Go.Proofs.YteienbdbhnikbaaGreatDoor.Hp
set_option linter.unusedVariables false
attribute [local go_sem] Oper.semAt_some

end Go.Proofs.YteienbdbhnikbaaGreatDoor.Hd

namespace Go.Proofs.YteienbdbhnikbaaGreatDoor.Hd
open Go.RowKit Go.Maps Go.Sort Go.Shelf Go.Proofs.YteienbdbhnikbaaGreatDoor Go.Proofs.YteienbdbhnikbaaGreatDoor.Hp
set_option linter.unusedVariables false
attribute [local go_sem] Oper.semAt_some

abbrev iv (n : Int) : Value := .int .i64 n
end Go.Proofs.YteienbdbhnikbaaGreatDoor.Hd

