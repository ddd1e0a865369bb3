/- add walked. -/
import Derived.Test.YtljlpkeddbfpaaaGreatDoorHdI
namespace Go.Proofs.YtljlpkeddbfpaaaGreatDoor.Hd
open Go.RowKit Go.Maps Go.Proofs.YtljlpkeddbfpaaaGreatDoor Go.Proofs.YtljlpkeddbfpaaaGreatDoor.Hp
set_option linter.unusedVariables false
attribute [local go_sem] Oper.semAt_some

structure Free (L : HL) (g : Nat) : Prop where
  pos : 1 ≤ g
  le : g ≤ L.length + 1
  none : findA L (g : Int) = none
  least : ∀ j : Nat, 1 ≤ j → j < g → (findA L (j : Int)).isSome = true
theorem hblk_cons (L : HL) (k : Int) (x : Hn) : hblk ((k, x) :: L) = putP (hblk L) k x.b := by
  funext j
  unfold hblk putP
  rw [findA_cons]
  by_cases e : j = k
  · rw [if_pos e, if_pos e]; rfl
  · rw [if_neg e, if_neg e]
set_option maxRecDepth 100000 in
set_option maxHeartbeats 4000000 in
theorem add_calls (tb fb pb hm n : Nat) (L : HL) (t : Th) (xb g : Nat) (hg : Free L g) (hn : n ≤ 1000000) (w : World) (R : Hp) (h : Sat w (tabHp tb fb pb hm L n * (pts xb (thO fb t) * R))) :
    Calls Tryz.prog 37 #[pp tb, .iface (thT t) (pp xb)] w fun e w' => (e = .returned (.int .i64 (g : Int)) ∧ ∃ hb, Sat w' (tabHp tb fb pb hm (((g : Int), ⟨hb, 1, xb, t⟩) :: L) (n + 1) * R)) ∧ Ran w w' := by
  obtain ⟨c0, c1, c2⟩ := tab_cells h
  have hLn : L.length ≤ n := pmap_le (h.perm (show _ = pmap hm (hblk L) L.length n * (pts tb (tbO fb pb hm) * all (fun p : Int × Hn => hnHp fb p.2) L * (pts xb (thO fb t) * R)) by unfold tabHp; ac_rfl))
  obtain ⟨g1, g2, g3, g4⟩ := hg
  have HLk := Lib.hid (fun (k : Int) (hk : I64 k) => tab_look h k hk)
  have Hg3 := Lib.hid g3
  have Hg4 := Lib.hid g4
  -- the end
  obtain ⟨ty, hty⟩ : ∃ ty, ty = thT t := ⟨_, rfl⟩
  have S1 := h.alloc (hnO ⟨w.heap.size, 1, xb, t⟩)
  obtain ⟨w', hrun, S2, R2⟩ := pmap_put Tryz.underlying79 (S1.perm (show _ = pmap hm (hblk L) L.length n * (pts tb (tbO fb pb hm) * all (fun p : Int × Hn => hnHp fb p.2) L * (pts w.heap.size (hnO ⟨w.heap.size, 1, xb, t⟩) * (pts xb (thO fb t) * R))) by unfold tabHp; ac_rfl)) (by unfold maxLen; omega) (g : Int) (by unfold I64; omega) (by unfold hblk; rw [g3]; rfl) w.heap.size
  have S3 : Sat w' (tabHp tb fb pb hm (((g : Int), ⟨w.heap.size, 1, xb, t⟩) :: L) (n + 1) * R) := S2.perm (by
    unfold tabHp
    rw [hblk_cons]
    show _ = pts tb (tbO fb pb hm) * (pmap hm (putP (hblk L) (g : Int) w.heap.size) (L.length + 1) (n + 1) * ((pts w.heap.size (hnO ⟨w.heap.size, 1, xb, t⟩) * pts xb (thO fb t)) * all (fun p : Int × Hn => hnHp fb p.2) L)) * R
    ac_rfl)
  have c2' : (w.alloc (hnO ⟨w.heap.size, 1, xb, t⟩)).cell? ⟨tb, 2, none⟩ = some (.map (some hm)) := (World.cell?_alloc_lt w _ _ (World.block_lt_of_cell? w _ c2)).trans c2
  have R3 := Lib.hid (Below.trans (Ran.new (Below.refl 0 w) (hnO ⟨w.heap.size, 1, xb, t⟩)) R2)
  have S3 := Lib.hid S3
  unfold hnO at hrun c2'
  dsimp only at hrun c2'
  rw [← hty] at hrun c2' ⊢
  have hgI : (g : Int) ≤ 1000001 := by omega
  clear h g3 g4 S1 S2 R2 hty
  go_enter Tryz.func37, Tryz.ntmps37
  go_wp2_with fail
  go_loopg [5] (g - 1) (fun (gk : Nat) (v5 : Value) (wr : World) => ∃ i : Nat, v5 = .int .i64 (i : Int) ∧ 1 ≤ i ∧ i + gk = g ∧ w = wr)
  case atStart => exact ⟨1, rfl, Nat.le_refl _, by omega, rfl⟩
  case round =>
    obtain ⟨i, rfl, hi1, hig, rfl⟩ := hrel
    by_cases hlt : i < g
    · have hs := Hg4.out i hi1 hlt
      obtain ⟨x, hx⟩ := Option.isSome_iff_exists.1 hs
      have hl := HLk.out (i : Int) (by unfold I64; omega)
      rw [show hblk L (i : Int) = some x.b by unfold hblk; rw [hx]; rfl] at hl
      unfold pv at hl
      have hiI : (i : Int) ≤ 1000001 := by omega
      have hi0 : (0 : Int) ≤ (i : Int) := by omega
      clear hs hx hrun
      go_wp2_with fail
      go_roundg (gk - 1)
      case rel => exact ⟨i + 1, by simp, by omega, by omega, rfl⟩
      case measure => omega
    · have hie : i = g := by omega
      subst hie
      have hl := HLk.out (i : Int) (by unfold I64; omega)
      rw [show hblk L (i : Int) = none by unfold hblk; rw [Hg3.out]; rfl] at hl
      unfold pv at hl
      clear hlt
      go_wp2_with fail
      go_ret
      exact ⟨⟨rfl, w.heap.size, S3.out⟩, R3.out⟩
end Go.Proofs.YtljlpkeddbfpaaaGreatDoor.Hd
