/- HandlesPlays, part 14 of 18: the texts PrT PrU PrV, joined by a program. -/
import Derived.Test.YteienbdbhnikbaaGreatDoorPn13
import Derived.Test.YteienbdbhnikbaaGreatDoorPn8
namespace Go.Proofs.YteienbdbhnikbaaGreatDoor.Pr
open Go.RowKit Go.Maps Go.Proofs.YteienbdbhnikbaaGreatDoor Go.Proofs.YteienbdbhnikbaaGreatDoor.Hp Go.Proofs.YteienbdbhnikbaaGreatDoor.Hd
set_option linter.unusedVariables false

abbrev n1 (c : UInt8) : ByteArray := ⟨#[c]⟩
def Sm (c : UInt8) : Prop := c = 97 ∨ c = 100 ∨ c = 108 ∨ c = 102 ∨ c = 103
theorem sm_facts {c : UInt8} (h : Sm c) : cutN (n1 c) = 0 ∧ partB (n1 c) = n1 c ∧ (wholeB (n1 c)).size = 1 ∧ rightB (n1 c) = true ∧ n1 c ≠ dotB ∧ n1 c ≠ dotsB ∧ (n1 c).data.toList.head? ≠ some 47 ∧ Lib.cut (Lib.trimLeftB (n1 c).data.toList 47) [47] = ([c], [], false) := by
  rcases h with rfl | rfl | rfl | rfl | rfl
  all_goals exact ⟨by decide, by decide, by decide, by decide, by decide, by decide, by decide, by decide⟩
section
variable {F : Fs} {c : UInt8} {r : Nd} {kd : Kd}
theorem begin_sm (h : Sm c) (d : Int) : beginP d (n1 c) = (d, 0) := by
  obtain ⟨-, -, -, -, -, -, h7, -⟩ := sm_facts h
  unfold beginP
  rw [if_neg (by show ¬ 1 = 0; decide), if_neg (by show ¬ 256 < 1; decide), if_neg h7]
theorem isK_root (hr : Hd.find F.L 1 = some r) (hk : r.kind = 1) : isK F 1 1 = true := by
  unfold isK
  rw [hr]
  simp [hk]
theorem last_sm (h : Sm c) (hr : Hd.find F.L 1 = some r) (hk : r.kind = 1) : lastP F 1 (n1 c) = (1, n1 c, false, 0) := by
  obtain ⟨h1, h2, h3, -, -, -, -, -⟩ := sm_facts h
  unfold lastP
  rw [isK_root hr hk, if_neg (by decide), begin_sm h, if_neg (by decide), if_pos h1, h2, h3]
  rfl
theorem step_sm (h : Sm c) (hr : Hd.find F.L 1 = some r) (hk : r.kind = 1) (hkd : r.kids = some kd) : stepP F 1 (n1 c) = tellP ((kd.M (n1 c)).getD 0) := by
  obtain ⟨-, -, -, h4, h5, h6, -, -⟩ := sm_facts h
  unfold stepP
  rw [hr]
  dsimp only
  rw [if_pos hk, if_neg h5, if_neg h6, h4, if_neg (by decide)]
  unfold kidP
  rw [hkd]
theorem place_sm (h : Sm c) (hr : Hd.find F.L 1 = some r) (hk : r.kind = 1) (hkd : r.kids = some kd) (hM : kd.M (n1 c) = none) (k : Int) : placeP F 1 (n1 c) k = (1, n1 c, 0) := by
  obtain ⟨-, -, -, h4, h5, h6, -, -⟩ := sm_facts h
  unfold placeP
  rw [last_sm h hr hk]
  dsimp only
  unfold placeQ
  rw [step_sm h hr hk hkd, hM, if_neg (by decide), if_neg (fun e => e.1 rfl), if_neg (fun e => e.elim (fun e => absurd e (by show ¬ 1 = 0; decide)) fun e => e.elim h5 h6)]
  rw [if_neg (by decide), if_neg (by decide), if_neg (fun e => by cases e.1)]
theorem walk_no (h : Sm c) (hr : Hd.find F.L 1 = some r) (hk : r.kind = 1) (hkd : r.kids = some kd) (hM : kd.M (n1 c) = none) : WalkP F 1 (n1 c) true = (0, 10) := by
  obtain ⟨-, -, -, -, -, -, -, h8⟩ := sm_facts h
  have hs := step_sm h hr hk hkd
  rw [hM] at hs
  unfold WalkP
  rw [isK_root hr hk, if_neg (by decide)]
  unfold walkR
  rw [begin_sm h, if_neg (by decide)]
  show (loopP F (4999 + 1) 0 1 (n1 c).data.toList true).1 = (0, 10)
  rw [loop_bad h8 (by simp) (by show (stepP F 1 (n1 c)).2 ≠ 0; rw [hs]; decide)]
  show ((0 : Int), (stepP F 1 (n1 c)).2) = (0, 10)
  rw [hs]
  rfl
theorem walk_yes (h : Sm c) (hr : Hd.find F.L 1 = some r) (hk : r.kind = 1) (hkd : r.kids = some kd) {k : Int} (hM : kd.M (n1 c) = some k) (h0 : k ≠ 0) (h3 : isK F k 3 = false) : WalkP F 1 (n1 c) true = (k, 0) := by
  obtain ⟨-, -, -, -, -, -, -, h8⟩ := sm_facts h
  have hs := step_sm h hr hk hkd
  rw [hM] at hs
  have hs : stepP F 1 (n1 c) = (k, 0) := hs.trans (if_neg h0)
  have e1 : (stepP F 1 (⟨[c].toArray⟩ : ByteArray)) = (k, 0) := hs
  unfold WalkP
  rw [isK_root hr hk, if_neg (by decide)]
  unfold walkR
  rw [begin_sm h, if_neg (by decide)]
  show (loopP F (4999 + 1) 0 1 (n1 c).data.toList true).1 = (k, 0)
  rw [loop_plain h8 (by simp) (by rw [e1]) (by rw [e1]; dsimp only; rw [h3]; rfl), e1]
  rfl
end
/-- A tree of which the nodes are 1 to g - 1; what the root's names are. -/
structure BegT (N g u : Nat) (M : K.SM) (F : Fs) : Prop where
  tree : TreeG N F
  most : F.most = 12
  room : F.room = 100
  used : F.used = (u : Int)
  full : ∀ j : Int, (Hd.find F.L j).isSome = true ↔ 1 ≤ j ∧ j < (g : Int)
  len : F.L.length + 1 = g
  root : ∃ r kd, Hd.find F.L 1 = some r ∧ r.kind = 1 ∧ r.kids = some kd ∧ kd.M = M
section
variable {N g u : Nat} {M : K.SM} {F : Fs}
theorem BegT.pos (h : BegT N g u M F) : 2 ≤ g := by
  obtain ⟨r, kd, hr, -⟩ := h.root
  have := (h.full 1).1 (by rw [hr]; rfl)
  omega
theorem BegT.free (h : BegT N g u M F) : FreeN F.L g where
  pos := by have := h.pos; omega
  le := by have := h.len; omega
  none := by
    cases hf : Hd.find F.L (g : Int) with
    | none => rfl
    | some z => have := (h.full (g : Int)).1 (by rw [hf]; rfl); omega
  least := fun j h1 h2 => (h.full (j : Int)).2 (by omega)
theorem BegT.make (h : BegT N g u M F) (hN : N ≤ 900000) {c : UInt8} (hM : M (n1 c) = none) {r : Nd} {kd : Kd} (hr : Hd.find F.L 1 = some r) (hk : r.kind = 1) (hkd : r.kids = some kd) {y : Nd} (hy : NewN 1 y) (hu : u + y.text.size ≤ 100) :
    BegT (N + 1) (g + 1) (u + y.text.size) (K.putM M (n1 c) (g : Int)) (madeG F 1 r kd (n1 c) g y) := by
  obtain ⟨r2, kd2, h1, h2, h3, h4⟩ := h.root
  rw [hr] at h1; injection h1 with h1; subst h1
  rw [hkd] at h3; injection h3 with h3; subst h3
  have hf := find_madeG hr kd (n1 c) g y
  have hp := h.pos
  refine { tree := h.tree.make hN hr hk hkd (.inl rfl) (by rw [h4]; exact hM) h.free hy (by rw [h.used, h.room]; omega), most := h.most, room := h.room, used := ?_, full := fun j => ?_, len := ?_, root := ?_ }
  · show F.used + (y.text.size : Int) = _
    rw [h.used]; omega
  · rw [hf]
    by_cases e : j = (g : Int)
    · rw [if_pos e, e]; simp; omega
    · rw [if_neg e]
      by_cases e1 : j = 1
      · rw [if_pos e1, e1]; simp; omega
      · rw [if_neg e1, h.full j]; omega
  · show (((g : Int), y) :: upd F.L 1 _).length + 1 = g + 1
    rw [List.length_cons, upd_len, h.len]
  · refine ⟨{ r with kids := some { kd with M := K.putM kd.M (n1 c) (g : Int), sz := kd.sz + 1, n := kd.n + 1 } }, { kd with M := K.putM kd.M (n1 c) (g : Int), sz := kd.sz + 1, n := kd.n + 1 }, by rw [hf, if_neg (by omega), if_pos rfl], hk, rfl, ?_⟩
    show K.putM kd.M (n1 c) (g : Int) = _
    rw [h4]
theorem begT_new (b kb : Nat) : BegT 1 2 0 (fun _ => none) (newF 12 100 b kb) where
  tree := {
    nd := by show [(1 : Int)].Nodup; simp
    rng := fun k x hx => by
      have hx : (if (1 : Int) = k then some (rootN b kb) else none) = some x := hx
      split at hx
      · omega
      · cases hx
    root := ⟨rootN b kb, rfl, rfl, rfl⟩
    kinds := fun k x hx => by
      have hx : (if (1 : Int) = k then some (rootN b kb) else none) = some x := hx
      split at hx
      · injection hx with hx; subst hx; exact .inl ⟨rfl, _, rfl⟩
      · cases hx
    kid := fun k s v hr => by
      obtain ⟨x, kd, hx, hk, hv⟩ := hr
      have hx : (if (1 : Int) = k then some (rootN b kb) else none) = some x := hx
      split at hx
      · injection hx with hx; subst hx; injection hk with hk; subst hk; cases hv
      · cases hx
    uniq := fun j k s t v hr => by
      obtain ⟨x, kd, hx, hk, hv⟩ := hr
      have hx : (if (1 : Int) = j then some (rootN b kb) else none) = some x := hx
      split at hx
      · injection hx with hx; subst hx; injection hk with hk; subst hk; cases hv
      · cases hx
    par := fun k x hx hk => by
      have hx : (if (1 : Int) = k then some (rootN b kb) else none) = some x := hx
      split at hx
      · omega
      · cases hx
    names := fun k x hx => by
      have hx : (if (1 : Int) = k then some (rootN b kb) else none) = some x := hx
      split at hx
      · injection hx with hx; subst hx; exact .inl rfl
      · cases hx
    bare := fun k x s v hx hk => by
      have hx : (if (1 : Int) = k then some (rootN b kb) else none) = some x := hx
      split at hx
      · omega
      · cases hx
    each := fun k x hx => by
      have hx : (if (1 : Int) = k then some (rootN b kb) else none) = some x := hx
      split at hx
      · injection hx with hx; subst hx
        refine ⟨Nat.zero_le _, Int.le_refl _, by show (0 : Int) ≤ _; decide, fun kd hkd => ?_⟩
        injection hkd with hkd; subst hkd
        exact ⟨Nat.zero_le _, Nat.zero_le _⟩
      · cases hx
    n := ⟨Nat.le_refl _, Nat.le_refl _⟩
    used := rfl
    room := ⟨by show (0 : Int) ≤ 100; decide, by show (100 : Int) ≤ 1000000; decide⟩ }
  most := rfl
  room := rfl
  used := rfl
  full j := by
    show (if (1 : Int) = j then some (rootN b kb) else none).isSome = true ↔ _
    by_cases e : (1 : Int) = j
    · rw [if_pos e]; subst e; simp
    · rw [if_neg e]; simp; omega
  len := rfl
  root := ⟨rootN b kb, ⟨kb, fun _ => none, 0, 0⟩, rfl, rfl, rfl, rfl⟩
/-- What Make of a name that is not there does to such a tree. -/
def MadeB (N g u : Nat) (M : K.SM) (F : Fs) (c : UInt8) (k : Int) (t : ByteArray) (F' : Fs) : Prop :=
  BegT (N + 1) (g + 1) (u + t.size) (K.putM M (n1 c) (g : Int)) F' ∧ (∃ y, Hd.find F'.L (g : Int) = some y ∧ y.kind = k ∧ y.text = t ∧ y.names = 1 ∧ y.holds = 0) ∧ (∀ j, j ≠ (g : Int) → j ≠ 1 → Hd.find F'.L j = Hd.find F.L j) ∧ (∀ j, hf F' j = hf F j)
theorem make_beg (fb mb : Nat) (h : BegT N g u M F) (hN : N ≤ 900000) {c : UInt8} (hc : Sm c) (hM : M (n1 c) = none) (hg : g ≤ 12) {k : Int} (hk : k = 2 ∨ k = 3) {t : ByteArray} (hu : u + t.size ≤ 100) (w : World) (R : Hp) (hG : Glob R) (hS : Sat w (fsHp fb mb F * R)) :
    Calls Tryz.prog 33 #[pp fb, .int .i64 1, .string (n1 c), .int .i64 k, .string t] w fun e w' => e = .returned (.tuple #[.int .i64 (g : Int), .int .i64 0]) ∧ (∃ F', MadeB N g u M F c k t F' ∧ Sat w' (fsHp fb mb F' * R)) ∧ Ran w w' := by
  obtain ⟨r, kd, hr, hrk, hkd, hkM⟩ := h.root
  have hM' : kd.M (n1 c) = none := by rw [hkM]; exact hM
  have HP := placeN_calls fb mb N F h.tree (by omega) 1 (n1 c) k w R i64_1 (by show 1 ≤ 1000000; omega) hG hS
  rw [place_sm hc hr hrk hkd hM'] at HP
  have hes := (h.tree.each 1 r hr).2.2.2 kd hkd
  have hn := h.tree.n
  have hlen := h.len
  have h12 := h.most
  have h100 := h.room
  have hus := h.used
  refine (MakeG_calls fb mb F 1 (n1 c) 1 r kd (n1 c) g t k i64_1 (by show 1 ≤ 1000000; omega) hk ⟨hr, hrk, hkd, hM', by omega, h.free, by omega, by omega, by omega, by omega, ⟨by omega, by omega⟩, ⟨by omega, by omega⟩⟩ w R HP).mono ?_
  rintro e w' ⟨⟨rfl, nb, S⟩, hR⟩
  have hy : NewN 1 ⟨nb, k, t, none, 0, 1, 0⟩ := ⟨.inr ⟨hk, rfl⟩, fun kd h => (by cases h), .inl rfl, rfl, rfl, by show t.size ≤ 4096; omega⟩
  refine ⟨rfl, ⟨_, ⟨h.make hN hM hr hrk hkd hy hu, ⟨_, by rw [find_madeG hr, if_pos rfl], rfl, rfl, rfl, rfl⟩, fun j h1 h2 => ?_, hf_made hr h.free.none rfl⟩, S⟩, hR⟩
  rw [find_madeG hr, if_neg h1, if_neg h2]
theorem makeD_beg (fb mb : Nat) (h : BegT N g u M F) (hN : N ≤ 900000) {c : UInt8} (hc : Sm c) (hM : M (n1 c) = none) (hg : g ≤ 12) (hu : u ≤ 100) (w : World) (R : Hp) (hG : Glob R) (hS : Sat w (fsHp fb mb F * R)) :
    Calls Tryz.prog 33 #[pp fb, .int .i64 1, .string (n1 c), .int .i64 1, .string ⟨#[]⟩] w fun e w' => e = .returned (.tuple #[.int .i64 (g : Int), .int .i64 0]) ∧ (∃ F', MadeB N g u M F c 1 ⟨#[]⟩ F' ∧ Sat w' (fsHp fb mb F' * R)) ∧ Ran w w' := by
  obtain ⟨r, kd, hr, hrk, hkd, hkM⟩ := h.root
  have hM' : kd.M (n1 c) = none := by rw [hkM]; exact hM
  have HP := placeN_calls fb mb N F h.tree (by omega) 1 (n1 c) 1 w R i64_1 (by show 1 ≤ 1000000; omega) hG hS
  rw [place_sm hc hr hrk hkd hM'] at HP
  have hes := (h.tree.each 1 r hr).2.2.2 kd hkd
  have hn := h.tree.n
  have hlen := h.len
  have h12 := h.most
  have h100 := h.room
  have hus := h.used
  have e0 : (((⟨#[]⟩ : ByteArray).size : Nat) : Int) = 0 := rfl
  refine (MakeGD_calls fb mb F 1 (n1 c) 1 r kd (n1 c) g i64_1 (by show 1 ≤ 1000000; omega) ⟨hr, hrk, hkd, hM', by omega, h.free, by omega, by omega, Nat.zero_le _, by omega, ⟨by omega, by omega⟩, ⟨by omega, by omega⟩⟩ w R HP).mono ?_
  rintro e w' ⟨⟨rfl, nb, kb, S⟩, hR⟩
  have hy : NewN 1 ⟨nb, 1, ⟨#[]⟩, some ⟨kb, fun _ => none, 0, 0⟩, 1, 1, 0⟩ := ⟨.inl ⟨rfl, _, rfl⟩, fun kd h => (by injection h with h; subst h; exact ⟨fun _ => rfl, rfl, rfl⟩), .inr rfl, rfl, rfl, Nat.zero_le _⟩
  refine ⟨rfl, ⟨_, ⟨h.make hN hM hr hrk hkd hy hu, ⟨_, by rw [find_madeG hr, if_pos rfl], rfl, rfl, rfl, rfl⟩, fun j h1 h2 => ?_, hf_made hr h.free.none rfl⟩, S⟩, hR⟩
  rw [find_madeG hr, if_neg h1, if_neg h2]
end
end Go.Proofs.YteienbdbhnikbaaGreatDoor.Pr

namespace Go.Proofs.YteienbdbhnikbaaGreatDoor.Pr
open Go.RowKit Go.Maps Go.Proofs.YteienbdbhnikbaaGreatDoor Go.Proofs.YteienbdbhnikbaaGreatDoor.Hp Go.Proofs.YteienbdbhnikbaaGreatDoor.Hd
set_option linter.unusedVariables false
attribute [local go_sem] Oper.semAt_some

abbrev woP (a b c d e : Value) : Obj := .cells #[a, b, c, d, e] 31 (0, 0)
theorem woP_cells {w : World} {b : Nat} {x y z u v : Value} {S : Hp} (h : Sat w (pts b (woP x y z u v) * S)) : w.cell? ⟨b, 0, none⟩ = some x ∧ w.cell? ⟨b, 1, none⟩ = some y ∧ w.cell? ⟨b, 2, none⟩ = some z ∧ w.cell? ⟨b, 3, none⟩ = some u ∧ w.cell? ⟨b, 4, none⟩ = some v := by
  have hb := h.get
  refine ⟨?_, ?_, ?_, ?_, ?_⟩ <;> rw [cell_at hb] <;> rfl
abbrev xyzB : ByteArray := ⟨#[120, 121, 122]⟩
abbrev dbB : ByteArray := ⟨#[100, 47, 98]⟩
abbrev helloB : ByteArray := ⟨#[104, 101, 108, 108, 111]⟩
/-- The refs that the handles of the beginning have of their own. -/
def b0 (k : Int) : Int := if 1 ≤ k ∧ k ≤ 4 then 1 else 0
theorem base0 : Base b0 := fun k => by
  unfold b0
  refine ⟨by split <;> decide, fun h1 h2 => ?_⟩
  rw [if_pos ⟨h1, h2⟩]
  exact Int.le_refl _
/-- The tree at the beginning. -/
structure Beg0 (F : Fs) : Prop where
  root : ∃ r kd, Hd.find F.L 1 = some r ∧ r.kind = 1 ∧ r.kids = some kd ∧ kd.M (n1 102) = none ∧ kd.M (n1 103) = none
  most : F.most = 12
  room : F.room = 100
  used : F.used = 6
  len : F.L.length = 4
abbrev L0 (h1 x1 h2 x2 h3 x3 h4 x4 bb eb : Nat) : HL := [((4 : Nat), ⟨h4, 1, x4, .writer bb eb⟩), ((3 : Nat), ⟨h3, 1, x3, .reader bb eb⟩), ((2 : Nat), ⟨h2, 1, x2, .sink none none 0 [] 50⟩), ((1 : Nat), ⟨h1, 1, x1, .text helloB 0⟩)]
theorem find_L0 (h1 x1 h2 x2 h3 x3 h4 x4 bb eb : Nat) (k : Int) : findA (L0 h1 x1 h2 x2 h3 x3 h4 x4 bb eb) k = if k = 4 then some ⟨h4, 1, x4, .writer bb eb⟩ else if k = 3 then some ⟨h3, 1, x3, .reader bb eb⟩ else if k = 2 then some ⟨h2, 1, x2, .sink none none 0 [] 50⟩ else if k = 1 then some ⟨h1, 1, x1, .text helloB 0⟩ else none := by
  rw [findA_cons, findA_cons, findA_cons, findA_cons]
  rfl
theorem inv_beg {F : Fs} (h : TreeG 5 F) (hh : ∀ k, hf F k = if k = 1 then 1 else 0) (h1 x1 h2 x2 h3 x3 h4 x4 bb eb : Nat) :
    InvT 20 ⟨F, L0 h1 x1 h2 x2 h3 x3 h4 x4 bb eb, 4, ⟨bb, eb, 0, []⟩, 0⟩ ∧ (∀ k, rf (L0 h1 x1 h2 x2 h3 x3 h4 x4 bb eb) k = b0 k) ∧ (∀ k, xt ⟨F, L0 h1 x1 h2 x2 h3 x3 h4 x4 bb eb, 4, ⟨bb, eb, 0, []⟩, 0⟩ k = if k = 1 then 1 else 0) := by
  have hfd := find_L0 h1 x1 h2 x2 h3 x3 h4 x4 bb eb
  have cas : ∀ k x, findA (L0 h1 x1 h2 x2 h3 x3 h4 x4 bb eb) k = some x → (k = 4 ∧ x = ⟨h4, 1, x4, .writer bb eb⟩) ∨ (k = 3 ∧ x = ⟨h3, 1, x3, .reader bb eb⟩) ∨ (k = 2 ∧ x = ⟨h2, 1, x2, .sink none none 0 [] 50⟩) ∨ (k = 1 ∧ x = ⟨h1, 1, x1, .text helloB 0⟩) := fun k x hx => by
    rw [hfd] at hx
    split at hx
    · injection hx with hx; exact .inl ⟨‹_›, hx.symm⟩
    · split at hx
      · injection hx with hx; exact .inr (.inl ⟨‹_›, hx.symm⟩)
      · split at hx
        · injection hx with hx; exact .inr (.inr (.inl ⟨‹_›, hx.symm⟩))
        · split at hx
          · injection hx with hx; exact .inr (.inr (.inr ⟨‹_›, hx.symm⟩))
          · cases hx
  have hx0 : ∀ k, xt ⟨F, L0 h1 x1 h2 x2 h3 x3 h4 x4 bb eb, 4, ⟨bb, eb, 0, []⟩, 0⟩ k = if k = 1 then 1 else 0 := fun k => by
    unfold xt
    have : sumA (cF k) (L0 h1 x1 h2 x2 h3 x3 h4 x4 bb eb) = 0 := rfl
    rw [this, hh]
    split <;> rfl
  refine ⟨{ tree := h.more (by omega), nd := ?_, ids := fun k x hx => ?_, refs := fun k x hx => ?_, th := fun k x hx => ?_, cls := fun k x hx => ?_, pos := fun k => by rw [hx0]; split <;> decide, len := ⟨by show 4 ≤ 20; decide, by show 4 ≤ 20; decide⟩, pipe := ⟨Nat.le_refl _, by show 0 ≤ 40; decide, Nat.zero_le _⟩ }, fun k => ?_, hx0⟩
  · show [(4 : Int), 3, 2, 1].Nodup
    decide
  · rcases cas k x hx with ⟨e, -⟩ | ⟨e, -⟩ | ⟨e, -⟩ | ⟨e, -⟩ <;> omega
  · rcases cas k x hx with ⟨-, e⟩ | ⟨-, e⟩ | ⟨-, e⟩ | ⟨-, e⟩ <;> rw [e] <;> exact ⟨Int.le_refl _, by show (1 : Int) ≤ 20; decide⟩
  · rcases cas k x hx with ⟨-, e⟩ | ⟨-, e⟩ | ⟨-, e⟩ | ⟨-, e⟩ <;> rw [e]
    · exact ⟨rfl, rfl⟩
    · exact ⟨rfl, rfl⟩
    · exact ⟨.inl rfl, Nat.zero_le _, by decide⟩
    · exact ⟨Nat.zero_le _, by decide⟩
  · rcases cas k x hx with ⟨e, e2⟩ | ⟨e, e2⟩ | ⟨e, e2⟩ | ⟨e, e2⟩ <;> rw [e, e2] <;> exact ⟨fun h => absurd h (by decide), fun h => (by cases h)⟩
  · unfold rf
    rw [hfd]
    unfold b0
    by_cases e4 : k = 4
    · rw [if_pos e4, if_pos (by omega)]
    rw [if_neg e4]
    by_cases e3 : k = 3
    · rw [if_pos e3, if_pos (by omega)]
    rw [if_neg e3]
    by_cases e2 : k = 2
    · rw [if_pos e2, if_pos (by omega)]
    rw [if_neg e2]
    by_cases e1 : k = 1
    · rw [if_pos e1, if_pos (by omega)]
    rw [if_neg e1, if_neg (by omega)]
theorem free1 : Free [] 1 := ⟨Nat.le_refl _, Nat.le_refl _, rfl, fun j h1 h2 => by omega⟩
theorem free2 (x : Hn) : Free [((1 : Nat), x)] 2 := ⟨by omega, Nat.le_refl _, rfl, fun j h1 h2 => by
  have : j = 1 := by omega
  subst this; rfl⟩
theorem free3 (x y : Hn) : Free [((2 : Nat), y), ((1 : Nat), x)] 3 := ⟨by omega, Nat.le_refl _, rfl, fun j h1 h2 => by
  have : j = 1 ∨ j = 2 := by omega
  rcases this with rfl | rfl <;> rfl⟩
theorem free4 (x y z : Hn) : Free [((3 : Nat), z), ((2 : Nat), y), ((1 : Nat), x)] 4 := ⟨by omega, Nat.le_refl _, rfl, fun j h1 h2 => by
  have : j = 1 ∨ j = 2 ∨ j = 3 := by omega
  rcases this with rfl | rfl | rfl <;> rfl⟩
abbrev M1 : K.SM := K.putM (fun _ => none) (n1 100) ((2 : Nat) : Int)
abbrev M2 : K.SM := K.putM M1 (n1 97) ((3 : Nat) : Int)
abbrev M3 : K.SM := K.putM M2 (n1 108) ((4 : Nat) : Int)
theorem m_facts : M1 (n1 97) = none ∧ M2 (n1 108) = none ∧ M3 (n1 102) = none ∧ M3 (n1 103) = none :=
  ⟨if_neg (by decide), (if_neg (by decide)).trans (if_neg (by decide)), (if_neg (by decide)).trans ((if_neg (by decide)).trans (if_neg (by decide))), (if_neg (by decide)).trans ((if_neg (by decide)).trans (if_neg (by decide)))⟩
/-- What begun leaves. -/
def BegunP (most : Int) (R : Hp) (e : Ending) (w' : World) : Prop :=
  ∃ (c : Pls) (p : Pc), e = .returned (.tuple #[.agg #[pp c.fb, pp c.bp, pp c.tb, pp p.lb, pp p.pb], .bool true]) ∧ Link c p ∧ p.fds = List.replicate 16 ⟨0, 0⟩ ∧ p.dir = ⟨1, 0⟩ ∧ p.mask = ⟨18, 0⟩ ∧ Sat w' (PHP c 20 b0 most p [] [] (fun s => Beg0 s.F) * R)
/-- What there is when the process has been made. -/
theorem begun_end {fb mb tb hm bp lb : Nat} {F : Fs} (hB : BegT 4 5 6 M3 F) (hh : ∀ k, hf F k = 0) (h1 x1 h2 x2 h3 x3 h4 x4 bb eb : Nat) {p : Pc} {most : Int} (hfb : p.fb = fb) (htb : p.tb = tb) (hlb : p.lb = lb) (h16 : p.fds = List.replicate 16 ⟨0, 0⟩) (hd : p.dir = ⟨1, 0⟩) {w : World} {R : Hp}
    (h : Sat w (pcHp p * (fsHp fb mb (holdP F 1) * (tabHp tb fb bp hm (L0 h1 x1 h2 x2 h3 x3 h4 x4 bb eb) 4 * (bufHp none 0 [] * (Spill.poolX bp 40 3 4 0 0 1 0 * (Spill.bufX bb bp 3 4 0 [] * (pts eb (ebO 2) * (Undo.logHp lb most 4 [] [] * R))))))))) :
    Sat w (PHP ⟨fb, mb, tb, hm, bp⟩ 20 b0 most p [] [] (fun s => Beg0 s.F) * R) := by
  obtain ⟨r, kd, hr, hrk, hkd, hM⟩ := hB.root
  have hT := hB.tree.hold 1
  obtain ⟨hI, hrf, hxt⟩ := inv_beg (F := holdP F 1) hT (fun k => by rw [hf_hold hr, hh]; split <;> rfl) h1 x1 h2 x2 h3 x3 h4 x4 bb eb
  have hP : holdP F 1 = F.put 1 { r with holds := r.holds + 1 } := by unfold holdP; rw [hr]
  have hb : Beg0 (holdP F 1) := by
    rw [hP]
    refine ⟨⟨{ r with holds := r.holds + 1 }, kd, by rw [find_put' F 1 1 _ (by rw [hr]; rfl), if_pos rfl], hrk, hkd, by rw [hM]; exact m_facts.2.2.1, by rw [hM]; exact m_facts.2.2.2⟩, hB.most, hB.room, hB.used, ?_⟩
    show (upd F.L 1 _).length = 4
    rw [upd_len]
    have := hB.len
    omega
  have hF : ∀ k, b0 k = fOf b0 p [] k := fun k => by
    unfold fOf
    rw [h16]
    have : ∀ n, nF (List.replicate n ⟨0, 0⟩) k = 0 := fun n => by
      induction n with
      | zero => rfl
      | succ n ih =>
        show dl 0 k + nF (List.replicate n ⟨0, 0⟩) k = 0
        rw [ih]
        unfold dl
        rw [if_neg (fun e => absurd e.2 (by decide))]
        rfl
    rw [this]
    show b0 k = b0 k + 0 + 0
    omega
  have hG : ∀ k, (if k = 1 then (1 : Int) else 0) = gOf p [] k := fun k => by
    unfold gOf
    rw [hd]
    show _ = (if k = 1 then 1 else 0) + 0
    omega
  refine ph_in (s := ⟨holdP F 1, L0 h1 x1 h2 x2 h3 x3 h4 x4 bb eb, 4, ⟨bb, eb, 0, []⟩, 0⟩) hI (fun k => (hrf k).trans (hF k)) (fun k => (hxt k).trans (hG k)) hb ?_
  refine h.perm ?_
  have e1 : snksHp (L0 h1 x1 h2 x2 h3 x3 h4 x4 bb eb) = bufHp none 0 [] := by
    show emp * (emp * (bufHp none 0 [] * (emp * emp))) = _
    rw [emp_sep, emp_sep, sep_emp, sep_emp]
  have e2 : poolHp ⟨fb, mb, tb, hm, bp⟩ ⟨bb, eb, 0, []⟩ 0 = Spill.poolX bp 40 3 4 0 0 1 0 := by
    unfold poolHp Pp.use
    show Spill.poolX bp 40 3 4 0 (Spill.cl 3 4 (0 + 0) - Spill.gn 3 4 0) 1 0 = _
    rw [show Spill.cl 3 4 (0 + 0) - Spill.gn 3 4 0 = 0 by decide]
  have e3 : pipeHp bp ⟨bb, eb, 0, []⟩ = Spill.bufX bb bp 3 4 0 [] * pts eb (ebO 2) := rfl
  have e4 : LG p most [] [] = Undo.logHp lb most 4 [] [] := by unfold LG; rw [hlb]; rfl
  have e5 : notesHp p [] = emp := rfl
  unfold SgHp
  dsimp only
  rw [e1, e2, e3, e4, e5, emp_sep]
  ac_rfl
set_option maxRecDepth 100000 in
set_option maxHeartbeats 4000000 in
theorem begun_calls (most : Int) (hm0 : 0 ≤ most) (hm1 : most ≤ 1000) (w : World) (R : Hp) (hG : Glob R) (h : Sat w R) :
    Calls Tryz.prog 9 #[.int .i64 most] w fun e w' => BegunP most R e w' ∧ Ran w w' := by
  have S0 := h.alloc (woP (.pointer none) (.pointer none) (.pointer none) (.pointer none) (.pointer none))
  have HN := Lib.hid (Hd.New_calls 12 100 (by omega) (by omega) (by omega) (by omega) _ _ S0)
  have R0 := Lib.hid (Ran.new (Below.refl 0 w) (woP (.pointer none) (.pointer none) (.pointer none) (.pointer none) (.pointer none)))
  have hG := Lib.hid hG
  clear h S0
  go_enter Tryz.func9, Tryz.ntmps9
  go_wp2_with fail
  refine HN.out.mono ?_
  rintro e w1 ⟨⟨fb, mb, b, kb, rfl, S1⟩, R1⟩
  have R1 := Lib.hid (Below.trans R0.out R1)
  have HP := Lib.hid (Spill.xnew 40 3 4 w1 _ S1 (by omega) (by omega) (by omega) (by omega))
  clear S1 R0 HN
  go_wp2_with fail
  refine HP.out.mono ?_
  rintro e w2 ⟨bp, rfl, S2, R2⟩
  have R2 := Lib.hid (Below.trans R1.out R2)
  have HU := Lib.hid (Undo.new_calls most 4 hm0 (by omega) (by omega) (by omega) w2 _ S2)
  clear S2 R1 HP
  go_wp2_with fail
  refine HU.out.mono ?_
  rintro e w3 ⟨rfl, S3, R3⟩
  obtain ⟨lb, hlb⟩ : ∃ lb, lb = w2.heap.size := ⟨_, rfl⟩
  rw [← hlb] at S3 ⊢
  have S3 := Undo.log_in S3
  have R3 := Lib.hid (Below.trans R2.out R3)
  have HM := Lib.hid (makeD_beg fb mb (begT_new b kb) (by omega) (c := 100) (.inr (.inl rfl)) rfl (by omega) (by omega) w3 _ hG.out.more.more.more (S3.perm (show _ = fsHp fb mb (newF 12 100 b kb) * (Undo.logHp lb most 4 [] [] * (Spill.poolX bp 40 3 4 0 0 0 0 * (pts w.heap.size (woP (.pointer none) (.pointer none) (.pointer none) (.pointer none) (.pointer none)) * R))) by ac_rfl)))
  clear S3 R2 HU hlb
  go_wp2_with fail
  refine HM.out.mono ?_
  rintro e w4 ⟨rfl, ⟨F1, hF1, S4⟩, R4⟩
  have R4 := Lib.hid (Below.trans R3.out R4)
  have HM2 := Lib.hid (make_beg fb mb hF1.1 (by omega) (c := 97) (.inl rfl) m_facts.1 (by omega) (k := 2) (.inl rfl) (t := xyzB) (by decide) w4 _ hG.out.more.more.more S4)
  have hF1 := Lib.hid hF1
  clear S4 R3 HM
  go_wp2_with fail
  refine HM2.out.mono ?_
  rintro e w5 ⟨rfl, ⟨F2, hF2, S5⟩, R5⟩
  have R5 := Lib.hid (Below.trans R4.out R5)
  have HM3 := Lib.hid (make_beg fb mb hF2.1 (by omega) (c := 108) (.inr (.inr (.inl rfl))) m_facts.2.1 (by omega) (k := 3) (.inr rfl) (t := dbB) (by decide) w5 _ hG.out.more.more.more S5)
  have hF2 := Lib.hid hF2
  clear S5 R4 HM2
  go_wp2_with fail
  refine HM3.out.mono ?_
  rintro e w6 ⟨rfl, ⟨F3, hF3, S6⟩, R6⟩
  have R6 := Lib.hid (Below.trans R5.out R6)
  have HH := Lib.hid (HNew_calls fb bp w6 _ S6)
  have hF3 := Lib.hid hF3
  clear S6 R5 HM3
  go_wp2_with fail
  refine HH.out.mono ?_
  rintro e w7 ⟨⟨tb, hm, rfl, S7⟩, R7⟩
  have R7 := Lib.hid (Below.trans R6.out R7)
  have HT := Lib.hid (Text_calls tb fb bp hm 0 [] helloB 1 (by decide) free1 (by omega) w7 _ S7)
  clear S7 R6 HH
  go_wp2_with fail
  refine HT.out.mono ?_
  rintro e w8 ⟨⟨rfl, h1, x1, S8⟩, R8⟩
  have R8 := Lib.hid (Below.trans R7.out R8)
  have HK := Lib.hid (Sink_calls tb fb bp hm (0 + 1) _ 50 2 (by omega) (free2 _) (by omega) w8 _ S8)
  clear S8 R7 HT
  go_wp2_with fail
  refine HK.out.mono ?_
  rintro e w9 ⟨⟨rfl, h2, x2, S9⟩, R9⟩
  have R9 := Lib.hid (Below.trans R8.out R9)
  have HPi := Lib.hid (Pipe_calls tb fb bp hm (0 + 1 + 1) 0 0 0 0 _ 3 4 (free3 _ _) (fun x => free4 _ _ x) (by omega) (by omega) w9 _ (S9.perm (show _ = tabHp tb fb bp hm _ (0 + 1 + 1) * (Spill.poolX bp 40 3 4 0 0 0 0 * (bufHp none 0 [] * (fsHp fb mb F3 * (Undo.logHp lb most 4 [] [] * (pts w.heap.size (woP (.pointer none) (.pointer none) (.pointer none) (.pointer none) (.pointer none)) * R))))) by ac_rfl)))
  clear S9 R8 HK
  go_wp2_with fail
  refine HPi.out.mono ?_
  rintro e w10 ⟨⟨rfl, bb, eb, h3, x3, h4, x4, S10⟩, R10⟩
  have R10 := Lib.hid (Below.trans R9.out R10)
  have hok : FsOk F3 := hF3.out.1.tree.ok (by omega)
  have HNw := Lib.hid (New_calls fb tb lb (fsHp fb mb F3) (fsHp fb mb (holdP F3 1)) w10 _ (fun W S hW => (Hold_calls fb mb F3 1 i64_1 hok W S hW).mono fun e w' ⟨⟨he, hs⟩, hr⟩ => ⟨⟨_, he, hs⟩, hr⟩) (S10.perm (show _ = fsHp fb mb F3 * (tabHp tb fb bp hm _ (0 + 1 + 1 + 2) * (bufHp none 0 [] * (Spill.poolX bp 40 3 4 0 0 (0 + 1) 0 * (Spill.bufX bb bp 3 4 0 [] * (pts eb (ebO 2) * (Undo.logHp lb most 4 [] [] * (pts w.heap.size (woP (.pointer none) (.pointer none) (.pointer none) (.pointer none) (.pointer none)) * R))))))) by ac_rfl)))
  clear S10 R9 HPi hok
  go_wp2_with fail
  refine HNw.out.mono ?_
  rintro e w11 ⟨⟨p, rfl, hfb, htb, hlb2, hfds, hdir, hmask, S11⟩, R11⟩
  have R11 := Lib.hid (Below.trans R10.out R11)
  have hh3 : ∀ k, hf F3 k = 0 := fun k => by
    rw [hF3.out.2.2.2 k, hF2.out.2.2.2 k, hF1.out.2.2.2 k]
    show (match (if (1 : Int) = k then some (rootN b kb) else none) with | none => (0 : Int) | some x => x.holds) = 0
    split
    · rfl
    · rename_i e
      split at e
      · injection e with e; rw [← e]; rfl
      · cases e
  have S12 := S11.perm (show _ = pts w.heap.size (woP (.pointer none) (.pointer none) (.pointer none) (.pointer none) (.pointer none)) * (pcHp p * (fsHp fb mb (holdP F3 1) * (tabHp tb fb bp hm (L0 h1 x1 h2 x2 h3 x3 h4 x4 bb eb) 4 * (bufHp none 0 [] * (Spill.poolX bp 40 3 4 0 0 1 0 * (Spill.bufX bb bp 3 4 0 [] * (pts eb (ebO 2) * (Undo.logHp lb most 4 [] [] * R)))))))) by ac_rfl)
  obtain ⟨z0, z1, z2, z3, z4⟩ := woP_cells S12
  have f0 : ∀ i, w11.frozen? ⟨w.heap.size, i, none⟩ = false := fun i => free_at S12.get i
  have S13 := ((((S12.set (i := 0) (pp fb)).set (i := 1) (pp bp)).set (i := 2) (pp tb)).set (i := 3) (pp lb)).set (i := 4) (pp p.pb)
  obtain ⟨r0, r1, r2, r3, r4⟩ := woP_cells (x := pp fb) (y := pp bp) (z := pp tb) (u := pp lb) (v := pp p.pb) S13
  have hE := Lib.hid (begun_end hF3.out.1 hh3 h1 x1 h2 x2 h3 x3 h4 x4 bb eb hfb htb hlb2 hfds hdir S13.right)
  have HL := Lib.hid (And.intro hfb (And.intro htb (And.intro hlb2 (And.intro hfds (And.intro hdir hmask)))))
  clear S11 S12 S13 HNw R10 hfb htb hlb2 hfds hdir hmask hh3
  go_wp2_with fail
  refine bodyPost_ret (v := .tuple #[.agg #[pp fb, pp bp, pp tb, pp lb, pp p.pb], .bool true]) (by simp [results, Tryz.results9, go_sem, r0, r1, r2, r3, r4]) rfl ?_
  exact ⟨⟨⟨fb, mb, tb, hm, bp⟩, p, by rw [HL.out.2.2.1], ⟨HL.out.1, HL.out.2.1, by rw [HL.out.2.2.2.1]; rfl⟩, HL.out.2.2.2.1, HL.out.2.2.2.2.1, HL.out.2.2.2.2.2, hE.out⟩, Ran.set (Ran.set (Ran.set (Ran.set (Ran.set R11.out _ _) _ _) _ _) _ _) _ _⟩
end Go.Proofs.YteienbdbhnikbaaGreatDoor.Pr

namespace Go.Proofs.YteienbdbhnikbaaGreatDoor.Pr
open Go.RowKit Go.Maps Go.Proofs.YteienbdbhnikbaaGreatDoor Go.Proofs.YteienbdbhnikbaaGreatDoor.Hp Go.Proofs.YteienbdbhnikbaaGreatDoor.Hd
set_option linter.unusedVariables false

abbrev mdW : Md := ⟨false, true, false⟩
/-- Names in the root with their files' numbers and bytes; handles with their files and where they stand. -/
structure Aw (A : List (UInt8 × Int × ByteArray)) (H : List (Int × Int × Nat)) (l u : Nat) (s : Sg) : Prop where
  root : ∃ r kd, Hd.find s.F.L 1 = some r ∧ r.kind = 1 ∧ r.kids = some kd ∧ (∀ x ∈ A, kd.M (n1 x.1) = some x.2.1) ∧ ∀ d, d = 102 ∨ d = 103 → (∀ x ∈ A, x.1 ≠ d) → kd.M (n1 d) = none
  nodes : ∀ x ∈ A, x.2.1 ≠ 1 ∧ ∃ z, Hd.find s.F.L x.2.1 = some z ∧ z.kind = 2 ∧ z.text = x.2.2 ∧ z.names = 1
  hands : ∀ h ∈ H, ∃ y, findA s.L h.1 = some y ∧ y.t = .file h.2.1 h.2.2 mdW
  most : s.F.most = 12
  room : s.F.room = 100
  used : s.F.used ≤ (u : Int)
  len : s.F.L.length ≤ l
section
variable {A : List (UInt8 × Int × ByteArray)} {H : List (Int × Int × Nat)} {l u : Nat} {s : Sg}
theorem aw_beg (h : Beg0 s.F) : Aw [] [] 4 6 s where
  root := by
    obtain ⟨r, kd, h1, h2, h3, h4, h5⟩ := h.root
    refine ⟨r, kd, h1, h2, h3, fun x hx => (by cases hx), fun d hd _ => ?_⟩
    rcases hd with rfl | rfl
    · exact h4
    · exact h5
  nodes x hx := by cases hx
  hands x hx := by cases hx
  most := h.most
  room := h.room
  used := by rw [h.used]; exact Int.le_refl _
  len := by rw [h.len]; exact Nat.le_refl _
theorem aw_refs (h : Aw A H l u s) {n : Int} {y : Hn} (hy : findA s.L n = some y) (r : Int) : Aw A H l u { s with L := updA s.L n { y with refs := r } } :=
  { h with hands := fun x hx => by
             obtain ⟨z, hz, ht⟩ := h.hands x hx
             show ∃ y', findA (updA s.L n { y with refs := r }) x.1 = some y' ∧ _
             rw [findA_upd s.L n x.1 _ (by rw [hy]; rfl)]
             by_cases e : x.1 = n
             · rw [if_pos e]
               rw [e, hy] at hz; injection hz with hz; subst hz
               exact ⟨_, rfl, ht⟩
             · rw [if_neg e]; exact ⟨z, hz, ht⟩ }
/-- The tree's nodes turned, but for how often they are held. -/
theorem aw_tree (h : Aw A H l u s) (F' : Fs) (hr : ∀ j z, Hd.find s.F.L j = some z → j = 1 ∨ z.names = 1 → ∃ z', Hd.find F'.L j = some z' ∧ z'.kind = z.kind ∧ z'.kids = z.kids ∧ z'.text = z.text ∧ z'.names = z.names) (e1 : F'.most = s.F.most) (e2 : F'.room = s.F.room) (e3 : F'.used ≤ s.F.used) (e4 : F'.L.length ≤ s.F.L.length) : Aw A H l u { s with F := F' } where
  root := by
    obtain ⟨r, kd, h1, h2, h3, h4, h5⟩ := h.root
    obtain ⟨z', g1, g2, g3, g4, g5⟩ := hr 1 r h1 (.inl rfl)
    exact ⟨z', kd, g1, g2.trans h2, g3.trans h3, h4, h5⟩
  nodes x hx := by
    obtain ⟨h0, z, h1, h2, h3, h4⟩ := h.nodes x hx
    obtain ⟨z', g1, g2, g3, g4, g5⟩ := hr _ z h1 (.inr h4)
    exact ⟨h0, z', g1, g2.trans h2, g4.trans h3, g5.trans h4⟩
  hands := h.hands
  most := e1.trans h.most
  room := e2.trans h.room
  used := Int.le_trans e3 h.used
  len := Nat.le_trans e4 h.len
theorem aw_hold (h : Aw A H l u s) (k : Int) : Aw A H l u { s with F := holdP s.F k } := by
  cases hx : Hd.find s.F.L k with
  | none =>
    have : holdP s.F k = s.F := by unfold holdP; rw [hx]
    rw [this]; exact h
  | some x =>
    have hP : holdP s.F k = s.F.put k { x with holds := x.holds + 1 } := by unfold holdP; rw [hx]
    rw [hP]
    refine aw_tree h _ (fun j z hz _ => ?_) rfl rfl (Int.le_refl _) (by show (upd s.F.L k _).length ≤ _; rw [upd_len]; exact Nat.le_refl _)
    rw [find_put' s.F k j _ (by rw [hx]; rfl)]
    by_cases e : j = k
    · rw [if_pos e]
      rw [e, hx] at hz; injection hz with hz; subst hz
      exact ⟨_, rfl, rfl, rfl, rfl, rfl⟩
    · rw [if_neg e]; exact ⟨z, hz, rfl, rfl, rfl, rfl⟩
theorem aw_drop (h : Aw A H l u s) (hnd : (s.F.L.map Prod.fst).Nodup) (k : Int) : Aw A H l u { s with F := dropG s.F k } := by
  cases hx : Hd.find s.F.L k with
  | none =>
    have : dropG s.F k = s.F := by unfold dropG; rw [hx]
    rw [this]; exact h
  | some x =>
    have hP : dropG s.F k = if x.holds = 0 then s.F else sweepG (s.F.put k { x with holds := x.holds - 1 }) k { x with holds := x.holds - 1 } := by unfold dropG; rw [hx]
    rw [hP]
    split
    · exact h
    · have hf : ∀ j, Hd.find (s.F.put k { x with holds := x.holds - 1 }).L j = if j = k then some { x with holds := x.holds - 1 } else Hd.find s.F.L j := fun j => find_put' s.F k j _ (by rw [hx]; rfl)
      have hn2 := nodup_put hnd k { x with holds := x.holds - 1 }
      unfold sweepG
      split
      · rename_i e0
        have hd := delA_len (s.F.put k { x with holds := x.holds - 1 }).L k (by rw [← find_findA, hf, if_pos rfl]; rfl)
        refine aw_tree h _ (fun j z hz hj => ?_) rfl rfl (by show s.F.used - (x.text.size : Int) ≤ s.F.used; omega) (by
          show (delA (s.F.put k { x with holds := x.holds - 1 }).L k).length ≤ _
          have : (s.F.put k { x with holds := x.holds - 1 }).L.length = s.F.L.length := upd_len _ _ _
          omega)
        have hjk : j ≠ k := fun e => by
          rw [e, hx] at hz; injection hz with hz; subst hz
          rcases hj with hj | hj
          · exact e0.1 (by rw [← e]; exact hj)
          · have := e0.2.1; dsimp only at this; omega
        rw [find_gone hn2, if_neg hjk, hf, if_neg hjk]
        exact ⟨z, hz, rfl, rfl, rfl, rfl⟩
      · refine aw_tree h _ (fun j z hz _ => ?_) rfl rfl (Int.le_refl _) (by show (upd s.F.L k _).length ≤ _; rw [upd_len]; exact Nat.le_refl _)
        rw [hf]
        by_cases e : j = k
        · rw [if_pos e]
          rw [e, hx] at hz; injection hz with hz; subst hz
          exact ⟨_, rfl, rfl, rfl, rfl, rfl⟩
        · rw [if_neg e]; exact ⟨z, hz, rfl, rfl, rfl, rfl⟩
theorem aw_del {n : Int} {k : Int} {a : Nat} (h : Aw A ((n, k, a) :: H) l u s) (hnd : NodupK s.L) (hn : ∀ x ∈ H, x.1 ≠ n) : Aw A H l u { s with L := delA s.L n } :=
  { h with hands := fun x hx => by
             obtain ⟨z, hz, ht⟩ := h.hands x (List.mem_cons_of_mem _ hx)
             refine ⟨z, ?_, ht⟩
             show findA (delA s.L n) x.1 = some z
             rw [findA_del s.L n x.1 hnd, if_neg (hn x hx)]
             exact hz }
theorem aw_open (h : Aw A H l u s) {g : Nat} (hg : findA s.L (g : Int) = none) (k : Int) (hb xb : Nat) (n : Nat) : Aw A (((g : Int), k, 0) :: H) l u { s with L := ((g : Int), ⟨hb, 1, xb, .file k 0 mdW⟩) :: s.L, n := n } :=
  { h with hands := fun x hx => by
             show ∃ y, findA (((g : Int), (⟨hb, 1, xb, .file k 0 mdW⟩ : Hn)) :: s.L) x.1 = some y ∧ _
             rw [findA_cons]
             rcases List.mem_cons.1 hx with e | e
             · subst e
               exact ⟨_, if_pos rfl, rfl⟩
             · obtain ⟨z, hz, ht⟩ := h.hands x e
               rw [if_neg (fun e => by rw [e, hg] at hz; cases hz)]
               exact ⟨z, hz, ht⟩ }
theorem aw_make (h : Aw A H l u s) {N : Nat} (hT : TreeG N s.F) {d : UInt8} (hd : ∀ x ∈ A, x.1 ≠ d) {r : Nd} {kd : Kd} (hr : Hd.find s.F.L 1 = some r) (hk : r.kind = 1) (hkd : r.kids = some kd) {g : Nat} (hg : FreeN s.F.L g) (nb : Nat) :
    Aw ((d, (g : Int), ⟨#[]⟩) :: A) H (l + 1) u { s with F := madeG s.F 1 r kd (n1 d) g ⟨nb, 2, ⟨#[]⟩, none, 0, 1, 0⟩ } where
  root := by
    obtain ⟨r2, kd2, h1, h2, h3, h4, h5⟩ := h.root
    rw [hr] at h1; injection h1 with h1; subst h1
    rw [hkd] at h3; injection h3 with h3; subst h3
    refine ⟨{ r with kids := some { kd with M := K.putM kd.M (n1 d) (g : Int), sz := kd.sz + 1, n := kd.n + 1 } }, { kd with M := K.putM kd.M (n1 d) (g : Int), sz := kd.sz + 1, n := kd.n + 1 }, ?_, hk, rfl, fun x hx => ?_, fun e he hx => ?_⟩
    · rw [find_madeG hr, if_neg (fun e => by have := hg.none; rw [← e, hr] at this; cases this), if_pos rfl]
    · show K.putM kd.M (n1 d) (g : Int) (n1 x.1) = some x.2.1
      rcases List.mem_cons.1 hx with e | e
      · subst e; exact if_pos rfl
      · unfold K.putM
        rw [if_neg (fun e2 => hd x e (by injection e2 with e2; simpa using e2))]
        exact h4 x e
    · show K.putM kd.M (n1 d) (g : Int) (n1 e) = none
      unfold K.putM
      rw [if_neg (fun e2 => hx _ List.mem_cons_self (by injection e2 with e2; simpa using e2.symm))]
      exact h5 e he fun x hx2 => hx x (List.mem_cons_of_mem _ hx2)
  nodes x hx := by
    have h1g : (1 : Int) ≠ (g : Int) := fun e => by have := hg.none; rw [← e, hr] at this; cases this
    rcases List.mem_cons.1 hx with e | e
    · subst e
      exact ⟨fun e => h1g e.symm, ⟨nb, 2, ⟨#[]⟩, none, 0, 1, 0⟩, by rw [find_madeG hr, if_pos rfl], rfl, rfl, rfl⟩
    · obtain ⟨h0, z, h1, h2, h3, h4⟩ := h.nodes x e
      refine ⟨h0, z, ?_, h2, h3, h4⟩
      rw [find_madeG hr, if_neg (fun e => by have := hg.none; rw [← e, h1] at this; cases this), if_neg h0]
      exact h1
  hands := h.hands
  most := h.most
  room := h.room
  used := by
    show s.F.used + 0 ≤ _
    have := h.used
    omega
  len := by
    show (((g : Int), _) :: upd s.F.L 1 _).length ≤ _
    rw [List.length_cons, upd_len]
    exact Nat.succ_le_succ h.len
/-- Bytes written at a file's end. -/
theorem aw_write {d : UInt8} {k : Int} {t : ByteArray} {id : Int} (h : Aw ((d, k, t) :: A) ((id, k, t.size) :: H) l u s) (hA : ∀ x ∈ A, x.2.1 ≠ k) (hH : ∀ x ∈ H, x.1 ≠ id) {z : Nd} (hz : Hd.find s.F.L k = some z) {y : Hn} (hy : findA s.L id = some y) (dt : ByteArray) (hdt : 0 < dt.size) (hs : t.size + dt.size ≤ 50) (hu : u + dt.size ≤ 100) :
    Aw ((d, k, wrB t t.size dt) :: A) ((id, k, t.size + dt.size) :: H) l (u + dt.size) { s with F := (writeP s.F k z t.size dt).2, L := updA s.L id { y with t := .file k (atN s.F k z t.size mdW dt) mdW } } := by
  obtain ⟨h0, z0, h1, h2, h3, h4⟩ := h.nodes _ List.mem_cons_self
  dsimp only at h0 h1 h2 h3
  rw [hz] at h1; injection h1 with h1; subst h1
  have hru := h.used
  have hrr := h.room
  have hm : moreB z.text t.size dt = dt.size := by unfold moreB; rw [h3]; omega
  have hW : writeP s.F k z t.size dt = (0, { s.F.put k { z with text := wrB z.text t.size dt } with used := s.F.used + (dt.size : Int) }) := by
    unfold writeP
    rw [if_neg (by omega), if_neg (by omega), hm, if_neg (by omega)]
  have hN : atN s.F k z t.size mdW dt = t.size + dt.size := by
    unfold atN
    have : atW z t.size mdW = t.size := rfl
    rw [this, hW]
    exact if_pos rfl
  rw [hW, hN]
  have hf : ∀ j, Hd.find (s.F.put k { z with text := wrB z.text t.size dt }).L j = if j = k then some { z with text := wrB z.text t.size dt } else Hd.find s.F.L j := fun j => find_put' s.F k j _ (by rw [hz]; rfl)
  refine { root := ?_, nodes := fun x hx => ?_, hands := fun x hx => ?_, most := h.most, room := h.room, used := ?_, len := by show (upd s.F.L k _).length ≤ _; rw [upd_len]; exact h.len }
  · obtain ⟨r, kd, g1, g2, g3, g4, g5⟩ := h.root
    refine ⟨r, kd, ?_, g2, g3, fun x hx => ?_, fun e he hx => g5 e he fun x hx2 => ?_⟩
    · show Hd.find (s.F.put k _).L 1 = some r
      rw [hf, if_neg (fun e => h0 e.symm)]; exact g1
    · rcases List.mem_cons.1 hx with e | e
      · subst e; exact g4 (d, k, t) List.mem_cons_self
      · exact g4 x (List.mem_cons_of_mem _ e)
    · rcases List.mem_cons.1 hx2 with e2 | e2
      · subst e2; exact hx (d, k, wrB t t.size dt) List.mem_cons_self
      · exact hx x (List.mem_cons_of_mem _ e2)
  · rcases List.mem_cons.1 hx with e | e
    · subst e
      refine ⟨h0, { z with text := wrB z.text t.size dt }, ?_, h2, by show wrB z.text t.size dt = wrB t t.size dt; rw [h3], h4⟩
      show Hd.find (s.F.put k _).L k = _
      rw [hf, if_pos rfl]
    · obtain ⟨g0, z1, g1, g2, g3, g4⟩ := h.nodes x (List.mem_cons_of_mem _ e)
      refine ⟨g0, z1, ?_, g2, g3, g4⟩
      show Hd.find (s.F.put k _).L x.2.1 = _
      rw [hf, if_neg (hA x e)]; exact g1
  · show ∃ y', findA (updA s.L id _) x.1 = some y' ∧ _
    rw [findA_upd s.L id x.1 _ (by rw [hy]; rfl)]
    rcases List.mem_cons.1 hx with e | e
    · subst e; exact ⟨_, if_pos rfl, rfl⟩
    · rw [if_neg (hH x e)]
      exact h.hands x (List.mem_cons_of_mem _ e)
  · show s.F.used + (dt.size : Int) ≤ _
    omega
end
end Go.Proofs.YteienbdbhnikbaaGreatDoor.Pr

