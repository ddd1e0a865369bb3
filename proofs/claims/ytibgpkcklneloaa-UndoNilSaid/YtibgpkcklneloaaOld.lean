/- An append leaves what stood in the old slice readable where it stood. -/
import Derived.Test.YtibgpkcklneloaaOth
namespace Go.Proofs.Ytibgpkcklneloaa
open Go.RowKit Hp
set_option linter.unusedVariables false

theorem run_append_old {P : Program} {w w' : World} {R : Hp} (t tx ty e : TypeId) (i : TypeInfo) (z : Value) (sz bytes : Nat) (ht : P.underlying t = some (.slice e)) (hi : P.info? e = some i) (hz : i.zero = some z) (hsize : i.size = sz) (hby : i.bytes = bytes) (hzs : z.cells.size = sz)
    (p p' : Option Addr) (n cap cap' : Nat) (xs : List Value) (h : Sat w (arr e sz p n cap xs * R)) (x : Value) (m : Nat) (news : List Value) (hs : Src P i.size tx x m news w) (hbytes : (n + m) * bytes ≤ 140737488355328) (h63 : n + m ≤ maxLen)
    (hrun : (Builtin.append_ #[t, tx] ty #[.slice p n cap, x]).run P w = .ok (.slice p' (n + m) cap') w') (hS : Sat w' (arr e sz p' (n + m) cap' (xs ++ news) * R)) (b o : Nat) (hp : p = some ⟨b, o, none⟩) (j : Nat) (hj : j < xs.length) : w'.cell? ⟨b, o + j, none⟩ = some xs[j] := by
  subst hsize; subst hby; subst hp
  have hsm : n + m ≤ 9223372036854775807 := by unfold maxLen at h63; omega
  obtain ⟨hxl, hnc, hcm⟩ := h.arr_len
  by_cases hr : n + m ≤ cap
  · obtain ⟨cur, h1, h2, h3, h4, h5, h6, hh⟩ := h.arr_some
    simp at h4 h6 hh
    have hfit : (n + m) * i.size ≤ cap * i.size := Nat.mul_le_mul_right _ hr
    have hnl := hs.newsLen
    rw [Nat.add_mul] at hfit
    have hg := hh.get
    have hrun2 := run_append_room_src (P := P) w t tx ty e i ht hi b o n cap x m news hs hr
      (fun j hj => by rw [cell_at hg]; have : o + n * i.size + j < cur.size := by omega
                      simp [this]) (fun j hj => free_at hg _)
    rw [hrun] at hrun2
    simp only [Result.ok.injEq, Value.slice.injEq] at hrun2
    obtain ⟨⟨hp, _⟩, hw⟩ := hrun2
    subst hp
    rw [hS.arr_cell j (by rw [List.length_append]; omega), List.getElem_append_left hj]
  · have hold : (Builtin.firstCells i.size n (.slice (some ⟨b, o, none⟩) n cap)).run P w.drew = .ok xs.toArray w.drew := by
      refine run_firstCells_some w.drew i.size n ⟨b, o, none⟩ n cap xs hxl fun j v hj => ?_
      have hj' : j < xs.length := (List.getElem?_eq_some_iff.1 hj).1
      rw [Addr.add_lit]
      show w.cell? _ = _
      rw [h.arr_cell j hj']
      rw [List.getElem?_eq_getElem hj'] at hj; exact hj
    have hfit : Builtin.nextslicecap (n + m) cap * i.bytes ≤ 281474976710656 := growslice_fits (by omega) hbytes
    have hrun2 := run_append_grow_src (P := P) w t tx ty e i z ht hi hz (some ⟨b, o, none⟩) n cap xs hold x m news hs (by omega) (by omega) hfit
    rw [hrun] at hrun2
    simp only [Result.ok.injEq] at hrun2
    obtain ⟨_, hw⟩ := hrun2
    subst hw
    obtain ⟨cur, h1, h2, h3, h4, h5, h6, hh⟩ := h.arr_some
    have hlt : b < w.heap.size := hh.lt
    have hc := h.arr_cell j hj
    rw [← hc]
    exact World.cell?_of_block (w := w) (Below.heap_alloc w.drew _ b hlt)
end Go.Proofs.Ytibgpkcklneloaa
