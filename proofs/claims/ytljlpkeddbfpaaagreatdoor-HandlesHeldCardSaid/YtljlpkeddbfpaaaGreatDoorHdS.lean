/- The tree at the beginning. -/
import Derived.Test.YtljlpkeddbfpaaaGreatDoorHdR
namespace Go.Proofs.YtljlpkeddbfpaaaGreatDoor.Hd
open Go.RowKit Go.Maps Go.Proofs.YtljlpkeddbfpaaaGreatDoor Go.Proofs.YtljlpkeddbfpaaaGreatDoor.Hp
set_option linter.unusedVariables false

theorem find_made (F : Fs) (x : Nd) (kd : Kd) (c : UInt8) (g : Nat) (y : Nd) (hx : find F.L 1 = some x) (j : Int) :
    find (madeF F x kd c g y).L j = if j = (g : Int) then some y else if j = 1 then some { x with kids := some { kd with M := K.putM kd.M (nm c) (g : Int), sz := kd.sz + 1, n := kd.n + 1 } } else find F.L j := by
  unfold madeF
  dsimp only
  rw [find_cons, find_upd F.L 1 j _ (by rw [hx]; rfl)]
/-- A tree whose nodes are 1 to g - 1, the root x with the names kd. -/
structure Beg (F : Fs) (g : Nat) (u : Nat) (x : Nd) (kd : Kd) : Prop where
  full : ∀ j : Int, (find F.L j).isSome = true ↔ 1 ≤ j ∧ j < (g : Int)
  len : F.L.length + 1 = g
  small : g ≤ 8
  n : F.n ≤ g
  root : find F.L 1 = some x
  kind : x.kind = 1
  kids : x.kids = some kd
  kn : kd.n ≤ g
  most : F.most = 8
  room : F.room = 60
  used : F.used = (u : Int)
theorem Beg.make {F : Fs} {g u : Nat} {x : Nd} {kd : Kd} (h : Beg F g u x kd) {c : UInt8} (hc : Simple c) (hM : kd.M (nm c) = none) {t : ByteArray} (ht : t.size ≤ 60 - u) (hu : u ≤ 60) : MakeOk F x kd c g t where
  simple := hc
  root := h.root
  kind := h.kind
  kids := h.kids
  new := hM
  kn := by have := h.kn; have := h.small; omega
  free := {
    pos := by have := h.len; omega
    le := by have := h.len; omega
    none := by
      cases hf : find F.L (g : Int) with
      | none => rfl
      | some z =>
        have := (h.full (g : Int)).1 (by rw [hf]; rfl)
        omega
    least := fun j h1 h2 => (h.full (j : Int)).2 (by omega) }
  n := by have := h.n; have := h.small; omega
  most := by rw [h.most]; have := h.len; have := h.small; omega
  small := by omega
  room := by rw [h.room, h.used]; omega
  used := by rw [h.used]; omega
  rm := by rw [h.room]; omega
theorem Beg.next {F : Fs} {g u : Nat} {x : Nd} {kd : Kd} (h : Beg F g u x kd) (hs : g + 1 ≤ 8) (c : UInt8) (y : Nd) (g1 : 2 ≤ g) :
    Beg (madeF F x kd c g y) (g + 1) (u + y.text.size) { x with kids := some { kd with M := K.putM kd.M (nm c) (g : Int), sz := kd.sz + 1, n := kd.n + 1 } } { kd with M := K.putM kd.M (nm c) (g : Int), sz := kd.sz + 1, n := kd.n + 1 } where
  full j := by
    rw [find_made F x kd c g y h.root]
    by_cases e : j = (g : Int)
    · rw [if_pos e]; subst e; simp; omega
    · rw [if_neg e]
      by_cases e1 : j = 1
      · rw [if_pos e1]; subst e1; simp; omega
      · rw [if_neg e1, h.full j]; omega
  len := by
    show ((g : Int), y) :: upd F.L 1 _ |>.length |> (· + 1) |> (· = g + 1)
    simp only [List.length_cons, upd_len]
    have := h.len; omega
  small := hs
  n := by show F.n + 1 ≤ g + 1; have := h.n; omega
  root := by
    rw [find_made F x kd c g y h.root, if_neg (by omega), if_pos rfl]
  kind := h.kind
  kids := rfl
  kn := by show kd.n + 1 ≤ g + 1; have := h.kn; omega
  most := h.most
  room := h.room
  used := by show F.used + (y.text.size : Int) = _; rw [h.used]; omega
theorem beg_new (b kb : Nat) : Beg (newF 8 60 b kb) 2 0 (rootN b kb) ⟨kb, fun _ => none, 0, 0⟩ where
  full j := by
    show (if (1 : Int) = j then some (rootN b kb) else none).isSome = true ↔ _
    by_cases e : (1 : Int) = j
    · rw [if_pos e]; subst e; simp
    · rw [if_neg e]; simp; omega
  len := rfl
  small := by omega
  n := by show 1 ≤ 2; omega
  root := rfl
  kind := rfl
  kids := rfl
  kn := Nat.zero_le _
  most := rfl
  room := rfl
  used := rfl
abbrev xyz : ByteArray := ⟨#[120, 121, 122]⟩
/-- The tree when the calls begin. -/
structure Begun (F : Fs) : Prop where
  n2 : ∃ b, find F.L 2 = some ⟨b, 2, xyz, none, 0, 1, 0⟩
  n3 : ∃ b, find F.L 3 = some ⟨b, 2, ⟨#[]⟩, none, 0, 1, 0⟩
  n4 : ∃ b, find F.L 4 = some ⟨b, 3, nm 97, none, 0, 1, 0⟩
  n5 : ∃ b kd, find F.L 5 = some ⟨b, 1, ⟨#[]⟩, some kd, 1, 1, 0⟩ ∧ kd.sz = 0
  n1 : ∃ b kd, find F.L 1 = some ⟨b, 1, ⟨#[]⟩, some kd, 1, 0, 0⟩ ∧ kd.sz = 4
  only : ∀ j : Int, (find F.L j).isSome = true ↔ 1 ≤ j ∧ j < 6
  room : F.room = 60
  used : F.used = 4
end Go.Proofs.YtljlpkeddbfpaaaGreatDoor.Hd
